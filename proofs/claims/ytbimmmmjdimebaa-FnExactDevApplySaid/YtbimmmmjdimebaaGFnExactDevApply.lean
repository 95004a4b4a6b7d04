/- Contracts by hand, beside the printed ones. -/
import Derived.Test.YtbimmmmjdimebaaEFnExactDevApply
namespace Go.Proofs.Ytbimmmmjdimebaa.PFnExactDevApply
open Go.RowKit Go.Proofs.YtbimmmmjdimebaaW.PrintWords Go.Proofs.YtbimmmmjdimebaaW.PrintLast Go.Proofs.YtbimmmmjdimebaaW.PrintMore
attribute [local go_sem] max2_int min2_int max_two min_two max_three min_three max_four min_four   -- for this text's walks alone
set_option linter.unusedVariables false
set_option linter.unusedSimpArgs false

/-! ### spec.DevApply -/
theorem ar1 {n i L : Nat} {a : Int} (h : (n : Int) = min (max a 0) (L : Int)) (g : (i : Int) < (n : Int)) : (i : Int) < a ∧ (i : Int) < (L : Int) := by omega
theorem ar1n {n i L : Nat} {a : Int} (h : (n : Int) = min (max a 0) (L : Int)) (k : (i : Int) < (L : Int)) (g : ¬(i : Int) < (n : Int)) : ¬(i : Int) < a := by omega
theorem ar2 {lo L : Nat} {z : Int} (h : (lo : Int) = z * 128) (g : z * 128 + 128 ≤ (L : Int)) : lo + 128 ≤ L := by omega
theorem ar3 {lo L : Nat} (g : L ≤ 1048576) (k : lo + 128 ≤ L) : wrap64 (lo : Int) = (lo : Int) := by unfold wrap64; omega
theorem ar4 {lo m L M : Nat} (g : L ≤ 1048576) (e : L = M) (k : lo + m < M) : wrap64 ((lo : Int) + (m : Int)) = ((lo + m : Nat) : Int) := by unfold wrap64; omega
theorem ar5 {lo m M : Nat} (h : lo + m < M) : 0 ≤ (lo : Int) + (m : Int) ∧ (lo : Int) + (m : Int) < (M : Int) := by omega
theorem ar6 {lo m : Nat} : ((lo : Int) + (m : Int)).toNat = lo + m := by omega
theorem ar7 {k i n : Nat} (h : k + i = n + 1) (g : i < n) : n - i < k := by omega
theorem ar8 {i n : Nat} (g : i < n) : n - i + (i + 1) = n + 1 := by omega
theorem ar9 {m : Nat} (h : m ≤ 128) (g : ¬(m : Int) < 128) : m = 128 := by omega
theorem ar10 {j L : Nat} (h : j ≤ L) (g : ¬(j : Int) < (L : Int)) : j = L := by omega
theorem ar11 {j n L : Nat} (h : L ≤ maxLen) (g : j < n) (f : n ≤ L) : wrap64 ((j : Int) + 1) = ((j + 1 : Nat) : Int) := by simp only [maxLen] at h; unfold wrap64; omega
theorem ar12 {m : Nat} (g : m < 128) : wrap64 ((m : Int) + 1) = ((m + 1 : Nat) : Int) := by unfold wrap64; omega
theorem ar13 {lo : Nat} {z : Int} (h : (lo : Int) = z * 128) : (z * 128).toNat = lo := by omega
theorem ar14 {L : Nat} (h : (L : Int) ≥ 2048) : 2048 ≤ L := by omega
theorem ar16 {L : Nat} (h : ¬(L : Int) ≥ 2048) : ¬2048 ≤ L := by omega
theorem ar18 (g n : Nat) : Addr.add ⟨g, 0, none⟩ n = ⟨g, n, none⟩ := by cases n <;> simp [Addr.add]
theorem ar19 {L : Nat} (h : (L : Int) < 2048) : (L + 1) * 32 ≤ 140737488355328 := by omega
theorem step_mem {l : List S71} {n i : Nat} {y : S71} (hi : i < n) (hn : n ≤ l.length) (hy : rd_T71 l (i : Int) = y) : y ∈ l.take n := by
  have h : i < (l.take n).length := by rw [List.length_take]; omega
  have e : (l.take n)[i] = y := by
    rw [List.getElem_take, ← hy]
    unfold rd_T71
    simp [show i < l.length by omega]
  rw [← e]
  exact List.getElem_mem h
theorem ar17 {n i L : Nat} (g : ¬(i : Int) < (n : Int)) : min n L ≤ i := by omega
def ptB (l : List Int) (o : Nat) (ys : List Int) (m : Nat) : List Int := l.take o ++ ys.take m ++ l.drop (o + m)
theorem ptB_zero (l : List Int) (o : Nat) (ys : List Int) : ptB l o ys 0 = l := by unfold ptB; simp
theorem ptB_length {l : List Int} {o m : Nat} {ys : List Int} (h : o + m ≤ l.length) (hm : m ≤ ys.length) : (ptB l o ys m).length = l.length := by
  unfold ptB
  simp only [List.length_append, List.length_take, List.length_drop]
  omega
theorem ptB_succ {l : List Int} {o m : Nat} {ys : List Int} (h : o + m < l.length) (hm : m < ys.length) : (ptB l o ys m).set (o + m) ys[m] = ptB l o ys (m + 1) := by
  unfold ptB
  have e1 : (l.take o ++ ys.take m).length = o + m := by simp only [List.length_append, List.length_take]; omega
  rw [List.set_append_right _ _ (by omega), e1, Nat.sub_self, List.drop_eq_getElem_cons (by omega), List.set_cons_zero, List.take_succ_eq_append_getElem hm]
  simp only [List.append_assoc, List.cons_append, List.nil_append, Nat.add_assoc]
theorem ptB_all (l : List Int) (o : Nat) (ys : List Int) : ptB l o ys ys.length = putB l o ys := by unfold ptB putB; rw [List.take_length]
set_option maxHeartbeats 16000000 in
set_option maxRecDepth 100000 in
theorem spec_DevApply.walk0 (a0_0 : Int) (A0_1 : Option Addr) (c0_1 : Nat) (l0_1 : List Int) (A0_2 : Option Addr) (c0_2 : Nat) (l0_2 : List S67) (A1 : Option Addr) (c1 : Nat) (l1 : List S71) (a2 : Int) (W : World) (hr0_1 : Kd.C (Kd.int .u8) W A0_1 l0_1.length l0_1) (hc0_1 : l0_1.length ≤ c0_1) (hr0_2 : Kd.C k67 W A0_2 l0_2.length l0_2) (hc0_2 : l0_2.length ≤ c0_2) (hr1 : Kd.C k71 W A1 l1.length l1) (hc1 : l1.length ≤ c1) (k : Nat) (E7 : spec_l1Valid.f k a0_0 l0_1 l0_2 = some false)  :
    Calls Try.prog 55 #[.agg #[.int .i64 a0_0, .slice A0_1 l0_1.length c0_1, .slice A0_2 l0_2.length c0_2], .slice A1 l1.length c1, .int .i64 a2] W fun e w' => e = .returned (.tuple #[.agg #[.int .i64 0, .slice none 0 0, .slice none 0 0], .int .i64 1]) ∧ Below W.heap.size W w' := by
  have HB := Aside0.mk (Below.refl W.heap.size W)
  have I : Law.Inv [] W := trivial
  have hu47 := Try.underlying47
  replace E7 := Aside0.mk E7
  go_enter Try.func55, Try.ntmps55
  go_wp2_with (first
    | ((with_reducible refine gate_dst (N := 3) rfl ?_)
       refine box_event ?hg (N := 3) ?hd (cs := #[.int .i64 a0_0, .slice A0_1 l0_1.length c0_1, .slice A0_2 l0_2.length c0_2]) (t := 47) ?hr ?_
       (case hd => rfl)
       (case hg => rfl)
       (case hr => first | (go_simp; done) | (go_simp; rfl))
       intro gb1 hg w2 hbox hb
       have I1 := Law.Inv.below (Law.Inv.on I (fun I => by (with_reducible repeat (first | apply Law.Inv.alloc | apply Law.Inv.drewN | apply Law.Inv.drew)); exact I)) hb
       have HB1 := Aside0.mk (below_step (by repeat (first | (with_reducible first | exact HB.out | apply below_alloc | apply pw_below_drewN | apply below_drew1) | exact HB.out)) hb)
       have SZ3 := Aside0.mk (show W.heap.size ≤ gb1 ∧ gb1 + 1 ≤ w2.heap.size from ⟨by rw [hg]; exact (by repeat (first | (with_reducible first | exact HB.out | apply below_alloc | apply pw_below_drewN | apply below_drew1) | exact HB.out) : Below W.heap.size W _).size, blk_lt hbox⟩)
       have I2 := Law.Inv.cons (s := Law.boxI gb1 #[.int .i64 a0_0, .slice A0_1 l0_1.length c0_1, .slice A0_2 l0_2.length c0_2] 47) ⟨hbox, blk_lt hbox⟩ I1
       clear I HB hbox hb hg I1
       have I := I2
       have HB := HB1
       clear I2 HB1
       have hcz_gb1_w2_0 : w2.cell? ⟨gb1, 0, none⟩ = some (.int .i64 a0_0) := (blk_cell (Law.blk_of (I.1.1)) 0).trans rfl
       have hfz_gb1_w2_0 := blk_frozen (Law.blk_of (I.1.1)) 0
       have hcz_gb1_w2_1 : w2.cell? ⟨gb1, 1, none⟩ = some (.slice A0_1 l0_1.length c0_1) := (blk_cell (Law.blk_of (I.1.1)) 1).trans rfl
       have hfz_gb1_w2_1 := blk_frozen (Law.blk_of (I.1.1)) 1
       have hcz_gb1_w2_2 : w2.cell? ⟨gb1, 2, none⟩ = some (.slice A0_2 l0_2.length c0_2) := (blk_cell (Law.blk_of (I.1.1)) 2).trans rfl
       have hfz_gb1_w2_2 := blk_frozen (Law.blk_of (I.1.1)) 2)
    | ((with_reducible refine gate_dst (N := 6) rfl ?_)
       refine box_event ?hg (N := 6) ?hd (cs := #[.int .i64 0, .slice none 0 0, .slice none 0 0]) (t := 47) ?hr ?_
       (case hd => rfl)
       (case hg => rfl)
       (case hr => first | (go_simp; done) | (go_simp; rfl))
       intro gb4 hg w5 hbox hb
       have I1 := Law.Inv.below (Law.Inv.on I (fun I => by (with_reducible repeat (first | apply Law.Inv.alloc | apply Law.Inv.drewN | apply Law.Inv.drew)); exact I)) hb
       have HB1 := Aside0.mk (below_step (by repeat (first | (with_reducible first | exact HB.out | apply below_alloc | apply pw_below_drewN | apply below_drew1) | exact HB.out)) hb)
       have SZ6 := Aside0.mk (show W.heap.size ≤ gb4 ∧ gb1 + 1 ≤ gb4 ∧ gb4 + 1 ≤ w5.heap.size from ⟨by rw [hg]; exact (by repeat (first | (with_reducible first | exact HB.out | apply below_alloc | apply pw_below_drewN | apply below_drew1) | exact HB.out) : Below W.heap.size W _).size, by rw [hg]; exact (Law.Inv.on I (fun I => by (with_reducible repeat (first | apply Law.Inv.alloc | apply Law.Inv.drewN | apply Law.Inv.drew)); exact I)).1.2, blk_lt hbox⟩)
       have I2 := Law.Inv.cons (s := Law.boxI gb4 #[.int .i64 0, .slice none 0 0, .slice none 0 0] 47) ⟨hbox, blk_lt hbox⟩ I1
       clear I HB hbox hb hg I1
       have I := I2
       have HB := HB1
       clear I2 HB1
       have hne_gb4_gb1 : gb4 ≠ gb1 := (by have := SZ3.out; have := SZ6.out; first | omega | (simp only [Law.rowI, Law.rowsI, Law.boxI]; omega))
       have hne_gb1_gb4 : gb1 ≠ gb4 := (by have := SZ3.out; have := SZ6.out; first | omega | (simp only [Law.rowI, Law.rowsI, Law.boxI]; omega))
       have hcz_gb1_w5_0 : w5.cell? ⟨gb1, 0, none⟩ = some (.int .i64 a0_0) := (blk_cell (Law.blk_of (I.2.1.1)) 0).trans rfl
       have hfz_gb1_w5_0 := blk_frozen (Law.blk_of (I.2.1.1)) 0
       have hcz_gb1_w5_1 : w5.cell? ⟨gb1, 1, none⟩ = some (.slice A0_1 l0_1.length c0_1) := (blk_cell (Law.blk_of (I.2.1.1)) 1).trans rfl
       have hfz_gb1_w5_1 := blk_frozen (Law.blk_of (I.2.1.1)) 1
       have hcz_gb1_w5_2 : w5.cell? ⟨gb1, 2, none⟩ = some (.slice A0_2 l0_2.length c0_2) := (blk_cell (Law.blk_of (I.2.1.1)) 2).trans rfl
       have hfz_gb1_w5_2 := blk_frozen (Law.blk_of (I.2.1.1)) 2
       have hcz_gb4_w5_0 : w5.cell? ⟨gb4, 0, none⟩ = some (.int .i64 0) := (blk_cell (Law.blk_of (I.1.1)) 0).trans rfl
       have hfz_gb4_w5_0 := blk_frozen (Law.blk_of (I.1.1)) 0
       have hcz_gb4_w5_1 : w5.cell? ⟨gb4, 1, none⟩ = some (.slice none 0 0) := (blk_cell (Law.blk_of (I.1.1)) 1).trans rfl
       have hfz_gb4_w5_1 := blk_frozen (Law.blk_of (I.1.1)) 1
       have hcz_gb4_w5_2 : w5.cell? ⟨gb4, 2, none⟩ = some (.slice none 0 0) := (blk_cell (Law.blk_of (I.1.1)) 2).trans rfl
       have hfz_gb4_w5_2 := blk_frozen (Law.blk_of (I.1.1)) 2)
    | ((with_reducible refine gate_callee (f := 70) rfl ?_)
       refine goesL_ (some 15) rfl rfl Try.func70 (by kernel_rfl) rfl #[.agg #[.int .i64 a0_0, .slice A0_1 l0_1.length c0_1, .slice A0_2 l0_2.length c0_2]] rfl (by (try simp only [List.map_toArray, List.map_cons, List.map_nil]); first | done | rfl) ?_
       refine Law.at_world (fun w8 hw1 => ?_)
       have I1 := Law.Inv.to I hw1 (fun I => by (with_reducible repeat (first | apply Law.Inv.alloc | apply Law.Inv.drewN | apply Law.Inv.drew)); exact I)
       have HB1 := Aside0.mk (show Below W.heap.size W w8 by rw [hw1]; repeat (first | (with_reducible first | exact HB.out | apply below_alloc | apply pw_below_drewN | apply below_drew1) | exact HB.out))
       clear I HB hw1
       have I := I1
       have HB := HB1
       clear I1 HB1
       refine (spec_l1Valid.calls k a0_0 A0_1 c0_1 l0_1 A0_2 c0_2 l0_2 false w8 ?_ ?_ ?_ ?_ E7.out).mono ?_
       · exact Kd.C_below hr0_1 HB.out
       · exact hc0_1
       · exact Kd.C_below hr0_2 HB.out
       · exact hc0_2
       rintro e w9 ⟨rfl, hq0⟩
       refine ⟨_, rfl, ?_⟩
       have I1 := Law.Inv.below I hq0
       have HB1 := Aside0.mk (below_step HB.out hq0)
       have SZ10 := Aside0.mk (show W.heap.size ≤ w8.heap.size ∧ gb4 + 1 ≤ w8.heap.size ∧ w8.heap.size ≤ w9.heap.size from ⟨HB.out.size, I.1.2, hq0.size⟩)
       clear I HB
       have I := I1
       have HB := HB1
       clear I1 HB1
       have hcz_gb1_w9_0 : w9.cell? ⟨gb1, 0, none⟩ = some (.int .i64 a0_0) := (blk_cell (Law.blk_of (I.2.1.1)) 0).trans rfl
       have hfz_gb1_w9_0 := blk_frozen (Law.blk_of (I.2.1.1)) 0
       have hcz_gb1_w9_1 : w9.cell? ⟨gb1, 1, none⟩ = some (.slice A0_1 l0_1.length c0_1) := (blk_cell (Law.blk_of (I.2.1.1)) 1).trans rfl
       have hfz_gb1_w9_1 := blk_frozen (Law.blk_of (I.2.1.1)) 1
       have hcz_gb1_w9_2 : w9.cell? ⟨gb1, 2, none⟩ = some (.slice A0_2 l0_2.length c0_2) := (blk_cell (Law.blk_of (I.2.1.1)) 2).trans rfl
       have hfz_gb1_w9_2 := blk_frozen (Law.blk_of (I.2.1.1)) 2
       have hcz_gb4_w9_0 : w9.cell? ⟨gb4, 0, none⟩ = some (.int .i64 0) := (blk_cell (Law.blk_of (I.1.1)) 0).trans rfl
       have hfz_gb4_w9_0 := blk_frozen (Law.blk_of (I.1.1)) 0
       have hcz_gb4_w9_1 : w9.cell? ⟨gb4, 1, none⟩ = some (.slice none 0 0) := (blk_cell (Law.blk_of (I.1.1)) 1).trans rfl
       have hfz_gb4_w9_1 := blk_frozen (Law.blk_of (I.1.1)) 1
       have hcz_gb4_w9_2 : w9.cell? ⟨gb4, 2, none⟩ = some (.slice none 0 0) := (blk_cell (Law.blk_of (I.1.1)) 2).trans rfl
       have hfz_gb4_w9_2 := blk_frozen (Law.blk_of (I.1.1)) 2))
  try go_wp2
  refine Law.post_world (fun wE hwE => ?_)
  have I1 : Law.Inv [Law.boxI gb4 #[.int .i64 0, .slice none 0 0, .slice none 0 0] 47, Law.boxI gb1 #[.int .i64 a0_0, .slice A0_1 l0_1.length c0_1, .slice A0_2 l0_2.length c0_2] 47] wE := by rw [hwE]; (with_reducible repeat (first | apply Law.Inv.alloc | apply Law.Inv.drewN | apply Law.Inv.drew)); refine Law.Inv.put (cs := #[.int .i64 0, .slice none 0 0, .slice none 0 0]) ?_ (by have := SZ3.out; have := SZ6.out; have := SZ10.out; refine ⟨?_, trivial⟩ <;> simp only [Law.rowI, Law.rowsI, Law.boxI] <;> omega) rfl; (with_reducible repeat (first | apply Law.Inv.alloc | apply Law.Inv.drewN | apply Law.Inv.drew)); refine Law.Inv.put (cs := #[.int .i64 0, .slice none 0 0, .slice none 0 0]) ?_ (by have := SZ3.out; have := SZ6.out; have := SZ10.out; refine ⟨?_, trivial⟩ <;> simp only [Law.rowI, Law.rowsI, Law.boxI] <;> omega) rfl; (with_reducible repeat (first | apply Law.Inv.alloc | apply Law.Inv.drewN | apply Law.Inv.drew)); refine Law.Inv.put (cs := #[.int .i64 0, .slice none 0 0, .slice none 0 0]) ?_ (by have := SZ3.out; have := SZ6.out; have := SZ10.out; refine ⟨?_, trivial⟩ <;> simp only [Law.rowI, Law.rowsI, Law.boxI] <;> omega) rfl; (with_reducible repeat (first | apply Law.Inv.alloc | apply Law.Inv.drewN | apply Law.Inv.drew)); exact I
  have HB1 : Below W.heap.size W wE := by rw [hwE]; repeat (first | (with_reducible first | exact HB.out | apply below_alloc | apply pw_below_drewN | apply below_drew1 | refine below_set ?_ (by have := SZ3.out; have := SZ6.out; have := SZ10.out; first | omega | (simp only [Law.rowI, Law.rowsI, Law.boxI]; omega))) | exact HB.out)
  clear hwE I HB
  have I := I1
  have HB := Aside0.mk HB1
  clear I1 HB1
  have hcz_gb1_wE_0 : wE.cell? ⟨gb1, 0, none⟩ = some (.int .i64 a0_0) := (blk_cell (Law.blk_of (I.2.1.1)) 0).trans rfl
  have hfz_gb1_wE_0 := blk_frozen (Law.blk_of (I.2.1.1)) 0
  have hcz_gb1_wE_1 : wE.cell? ⟨gb1, 1, none⟩ = some (.slice A0_1 l0_1.length c0_1) := (blk_cell (Law.blk_of (I.2.1.1)) 1).trans rfl
  have hfz_gb1_wE_1 := blk_frozen (Law.blk_of (I.2.1.1)) 1
  have hcz_gb1_wE_2 : wE.cell? ⟨gb1, 2, none⟩ = some (.slice A0_2 l0_2.length c0_2) := (blk_cell (Law.blk_of (I.2.1.1)) 2).trans rfl
  have hfz_gb1_wE_2 := blk_frozen (Law.blk_of (I.2.1.1)) 2
  have hcz_gb4_wE_0 : wE.cell? ⟨gb4, 0, none⟩ = some (.int .i64 0) := (blk_cell (Law.blk_of (I.1.1)) 0).trans rfl
  have hfz_gb4_wE_0 := blk_frozen (Law.blk_of (I.1.1)) 0
  have hcz_gb4_wE_1 : wE.cell? ⟨gb4, 1, none⟩ = some (.slice none 0 0) := (blk_cell (Law.blk_of (I.1.1)) 1).trans rfl
  have hfz_gb4_wE_1 := blk_frozen (Law.blk_of (I.1.1)) 1
  have hcz_gb4_wE_2 : wE.cell? ⟨gb4, 2, none⟩ = some (.slice none 0 0) := (blk_cell (Law.blk_of (I.1.1)) 2).trans rfl
  have hfz_gb4_wE_2 := blk_frozen (Law.blk_of (I.1.1)) 2
  refine bodyPost_ret (v := .tuple #[.agg #[.int .i64 0, .slice none 0 0, .slice none 0 0], .int .i64 1]) ?_ rfl ?_
  · simp [results, Try.f55, go_sem, *]
  · exact ⟨rfl, HB.out⟩
set_option maxHeartbeats 16000000 in
set_option maxRecDepth 100000 in
theorem spec_DevApply.walk1 (a0_0 : Int) (A0_1 : Option Addr) (c0_1 : Nat) (l0_1 : List Int) (A0_2 : Option Addr) (c0_2 : Nat) (l0_2 : List S67) (A1 : Option Addr) (c1 : Nat) (l1 : List S71) (a2 : Int) (W : World) (hr0_1 : Kd.C (Kd.int .u8) W A0_1 l0_1.length l0_1) (hc0_1 : l0_1.length ≤ c0_1) (hr0_2 : Kd.C k67 W A0_2 l0_2.length l0_2) (hc0_2 : l0_2.length ≤ c0_2) (hr1 : Kd.C k71 W A1 l1.length l1) (hc1 : l1.length ≤ c1) (k : Nat) (r11 : Int) (r12 : List Int) (r13 : List (S67)) (E7 : spec_l1Valid.f k a0_0 l0_1 l0_2 = some true) (E14 : spec_l1CopyDevice.f k a0_0 l0_1 l0_2 = some (r11, r12, r13)) (T : (l1.length : Int) > 4096) :
    Calls Try.prog 55 #[.agg #[.int .i64 a0_0, .slice A0_1 l0_1.length c0_1, .slice A0_2 l0_2.length c0_2], .slice A1 l1.length c1, .int .i64 a2] W fun e w' => ∃ v1_ v2_ : Value, e = .returned (.tuple #[.agg #[.int .i64 r11, v1_, v2_], .int .i64 4]) ∧ Kd.R (Kd.int .u8) 5 w' W.heap.size (fun _ => True) v1_ r12 ∧ Kd.S k67 67 w' W.heap.size (fun k_ => some k_ ≠ (v1_ : Value).ownBlock) v2_ r13 ∧ Below W.heap.size W w' := by
  have HB := Aside0.mk (Below.refl W.heap.size W)
  have I : Law.Inv [] W := trivial
  have D0 : decide ((l1.length : Int) > 4096) = true := decide_eq_true T
  have D1 : decide (4096 < (l1.length : Int)) = true := decide_eq_true T
  clear T
  have hu47 := Try.underlying47
  replace E7 := Aside0.mk E7
  replace E14 := Aside0.mk E14
  go_enter Try.func55, Try.ntmps55
  go_wp2_with (first
    | ((with_reducible refine gate_dst (N := 3) rfl ?_)
       refine box_event ?hg (N := 3) ?hd (cs := #[.int .i64 a0_0, .slice A0_1 l0_1.length c0_1, .slice A0_2 l0_2.length c0_2]) (t := 47) ?hr ?_
       (case hd => rfl)
       (case hg => rfl)
       (case hr => first | (go_simp; done) | (go_simp; rfl))
       intro gb1 hg w2 hbox hb
       have I1 := Law.Inv.below (Law.Inv.on I (fun I => by (with_reducible repeat (first | apply Law.Inv.alloc | apply Law.Inv.drewN | apply Law.Inv.drew)); exact I)) hb
       have HB1 := Aside0.mk (below_step (by repeat (first | (with_reducible first | exact HB.out | apply below_alloc | apply pw_below_drewN | apply below_drew1) | exact HB.out)) hb)
       have SZ3 := Aside0.mk (show W.heap.size ≤ gb1 ∧ gb1 + 1 ≤ w2.heap.size from ⟨by rw [hg]; exact (by repeat (first | (with_reducible first | exact HB.out | apply below_alloc | apply pw_below_drewN | apply below_drew1) | exact HB.out) : Below W.heap.size W _).size, blk_lt hbox⟩)
       have I2 := Law.Inv.cons (s := Law.boxI gb1 #[.int .i64 a0_0, .slice A0_1 l0_1.length c0_1, .slice A0_2 l0_2.length c0_2] 47) ⟨hbox, blk_lt hbox⟩ I1
       clear I HB hbox hb hg I1
       have I := I2
       have HB := HB1
       clear I2 HB1
       have hcz_gb1_w2_0 : w2.cell? ⟨gb1, 0, none⟩ = some (.int .i64 a0_0) := (blk_cell (Law.blk_of (I.1.1)) 0).trans rfl
       have hfz_gb1_w2_0 := blk_frozen (Law.blk_of (I.1.1)) 0
       have hcz_gb1_w2_1 : w2.cell? ⟨gb1, 1, none⟩ = some (.slice A0_1 l0_1.length c0_1) := (blk_cell (Law.blk_of (I.1.1)) 1).trans rfl
       have hfz_gb1_w2_1 := blk_frozen (Law.blk_of (I.1.1)) 1
       have hcz_gb1_w2_2 : w2.cell? ⟨gb1, 2, none⟩ = some (.slice A0_2 l0_2.length c0_2) := (blk_cell (Law.blk_of (I.1.1)) 2).trans rfl
       have hfz_gb1_w2_2 := blk_frozen (Law.blk_of (I.1.1)) 2)
    | ((with_reducible refine gate_dst (N := 6) rfl ?_)
       refine box_event ?hg (N := 6) ?hd (cs := #[.int .i64 0, .slice none 0 0, .slice none 0 0]) (t := 47) ?hr ?_
       (case hd => rfl)
       (case hg => rfl)
       (case hr => first | (go_simp; done) | (go_simp; rfl))
       intro gb4 hg w5 hbox hb
       have I1 := Law.Inv.below (Law.Inv.on I (fun I => by (with_reducible repeat (first | apply Law.Inv.alloc | apply Law.Inv.drewN | apply Law.Inv.drew)); exact I)) hb
       have HB1 := Aside0.mk (below_step (by repeat (first | (with_reducible first | exact HB.out | apply below_alloc | apply pw_below_drewN | apply below_drew1) | exact HB.out)) hb)
       have SZ6 := Aside0.mk (show W.heap.size ≤ gb4 ∧ gb1 + 1 ≤ gb4 ∧ gb4 + 1 ≤ w5.heap.size from ⟨by rw [hg]; exact (by repeat (first | (with_reducible first | exact HB.out | apply below_alloc | apply pw_below_drewN | apply below_drew1) | exact HB.out) : Below W.heap.size W _).size, by rw [hg]; exact (Law.Inv.on I (fun I => by (with_reducible repeat (first | apply Law.Inv.alloc | apply Law.Inv.drewN | apply Law.Inv.drew)); exact I)).1.2, blk_lt hbox⟩)
       have I2 := Law.Inv.cons (s := Law.boxI gb4 #[.int .i64 0, .slice none 0 0, .slice none 0 0] 47) ⟨hbox, blk_lt hbox⟩ I1
       clear I HB hbox hb hg I1
       have I := I2
       have HB := HB1
       clear I2 HB1
       have hne_gb4_gb1 : gb4 ≠ gb1 := (by have := SZ3.out; have := SZ6.out; first | omega | (simp only [Law.rowI, Law.rowsI, Law.boxI]; omega))
       have hne_gb1_gb4 : gb1 ≠ gb4 := (by have := SZ3.out; have := SZ6.out; first | omega | (simp only [Law.rowI, Law.rowsI, Law.boxI]; omega))
       have hcz_gb1_w5_0 : w5.cell? ⟨gb1, 0, none⟩ = some (.int .i64 a0_0) := (blk_cell (Law.blk_of (I.2.1.1)) 0).trans rfl
       have hfz_gb1_w5_0 := blk_frozen (Law.blk_of (I.2.1.1)) 0
       have hcz_gb1_w5_1 : w5.cell? ⟨gb1, 1, none⟩ = some (.slice A0_1 l0_1.length c0_1) := (blk_cell (Law.blk_of (I.2.1.1)) 1).trans rfl
       have hfz_gb1_w5_1 := blk_frozen (Law.blk_of (I.2.1.1)) 1
       have hcz_gb1_w5_2 : w5.cell? ⟨gb1, 2, none⟩ = some (.slice A0_2 l0_2.length c0_2) := (blk_cell (Law.blk_of (I.2.1.1)) 2).trans rfl
       have hfz_gb1_w5_2 := blk_frozen (Law.blk_of (I.2.1.1)) 2
       have hcz_gb4_w5_0 : w5.cell? ⟨gb4, 0, none⟩ = some (.int .i64 0) := (blk_cell (Law.blk_of (I.1.1)) 0).trans rfl
       have hfz_gb4_w5_0 := blk_frozen (Law.blk_of (I.1.1)) 0
       have hcz_gb4_w5_1 : w5.cell? ⟨gb4, 1, none⟩ = some (.slice none 0 0) := (blk_cell (Law.blk_of (I.1.1)) 1).trans rfl
       have hfz_gb4_w5_1 := blk_frozen (Law.blk_of (I.1.1)) 1
       have hcz_gb4_w5_2 : w5.cell? ⟨gb4, 2, none⟩ = some (.slice none 0 0) := (blk_cell (Law.blk_of (I.1.1)) 2).trans rfl
       have hfz_gb4_w5_2 := blk_frozen (Law.blk_of (I.1.1)) 2)
    | ((with_reducible refine gate_callee (f := 70) rfl ?_)
       refine goesL_ (some 15) rfl rfl Try.func70 (by kernel_rfl) rfl #[.agg #[.int .i64 a0_0, .slice A0_1 l0_1.length c0_1, .slice A0_2 l0_2.length c0_2]] rfl (by (try simp only [List.map_toArray, List.map_cons, List.map_nil]); first | done | rfl) ?_
       refine Law.at_world (fun w8 hw1 => ?_)
       have I1 := Law.Inv.to I hw1 (fun I => by (with_reducible repeat (first | apply Law.Inv.alloc | apply Law.Inv.drewN | apply Law.Inv.drew)); exact I)
       have HB1 := Aside0.mk (show Below W.heap.size W w8 by rw [hw1]; repeat (first | (with_reducible first | exact HB.out | apply below_alloc | apply pw_below_drewN | apply below_drew1) | exact HB.out))
       clear I HB hw1
       have I := I1
       have HB := HB1
       clear I1 HB1
       refine (spec_l1Valid.calls k a0_0 A0_1 c0_1 l0_1 A0_2 c0_2 l0_2 true w8 ?_ ?_ ?_ ?_ E7.out).mono ?_
       · exact Kd.C_below hr0_1 HB.out
       · exact hc0_1
       · exact Kd.C_below hr0_2 HB.out
       · exact hc0_2
       rintro e w9 ⟨rfl, hq0⟩
       refine ⟨_, rfl, ?_⟩
       have I1 := Law.Inv.below I hq0
       have HB1 := Aside0.mk (below_step HB.out hq0)
       have SZ10 := Aside0.mk (show W.heap.size ≤ w8.heap.size ∧ gb4 + 1 ≤ w8.heap.size ∧ w8.heap.size ≤ w9.heap.size from ⟨HB.out.size, I.1.2, hq0.size⟩)
       clear I HB
       have I := I1
       have HB := HB1
       clear I1 HB1
       have hcz_gb1_w9_0 : w9.cell? ⟨gb1, 0, none⟩ = some (.int .i64 a0_0) := (blk_cell (Law.blk_of (I.2.1.1)) 0).trans rfl
       have hfz_gb1_w9_0 := blk_frozen (Law.blk_of (I.2.1.1)) 0
       have hcz_gb1_w9_1 : w9.cell? ⟨gb1, 1, none⟩ = some (.slice A0_1 l0_1.length c0_1) := (blk_cell (Law.blk_of (I.2.1.1)) 1).trans rfl
       have hfz_gb1_w9_1 := blk_frozen (Law.blk_of (I.2.1.1)) 1
       have hcz_gb1_w9_2 : w9.cell? ⟨gb1, 2, none⟩ = some (.slice A0_2 l0_2.length c0_2) := (blk_cell (Law.blk_of (I.2.1.1)) 2).trans rfl
       have hfz_gb1_w9_2 := blk_frozen (Law.blk_of (I.2.1.1)) 2
       have hcz_gb4_w9_0 : w9.cell? ⟨gb4, 0, none⟩ = some (.int .i64 0) := (blk_cell (Law.blk_of (I.1.1)) 0).trans rfl
       have hfz_gb4_w9_0 := blk_frozen (Law.blk_of (I.1.1)) 0
       have hcz_gb4_w9_1 : w9.cell? ⟨gb4, 1, none⟩ = some (.slice none 0 0) := (blk_cell (Law.blk_of (I.1.1)) 1).trans rfl
       have hfz_gb4_w9_1 := blk_frozen (Law.blk_of (I.1.1)) 1
       have hcz_gb4_w9_2 : w9.cell? ⟨gb4, 2, none⟩ = some (.slice none 0 0) := (blk_cell (Law.blk_of (I.1.1)) 2).trans rfl
       have hfz_gb4_w9_2 := blk_frozen (Law.blk_of (I.1.1)) 2)
    | ((with_reducible refine gate_callee (f := 86) rfl ?_)
       refine goesL_ (some 19) rfl rfl Try.func86 (by kernel_rfl) rfl #[.agg #[.int .i64 a0_0, .slice A0_1 l0_1.length c0_1, .slice A0_2 l0_2.length c0_2]] rfl (by (try simp only [List.map_toArray, List.map_cons, List.map_nil]); first | done | rfl) ?_
       refine Law.at_world (fun w15 hw1 => ?_)
       have I1 := Law.Inv.to I hw1 (fun I => by (with_reducible repeat (first | apply Law.Inv.alloc | apply Law.Inv.drewN | apply Law.Inv.drew)); exact I)
       have HB1 := Aside0.mk (show Below W.heap.size W w15 by rw [hw1]; repeat (first | (with_reducible first | exact HB.out | apply below_alloc | apply pw_below_drewN | apply below_drew1) | exact HB.out))
       clear I HB hw1
       have I := I1
       have HB := HB1
       clear I1 HB1
       refine (spec_l1CopyDevice.calls k a0_0 A0_1 c0_1 l0_1 A0_2 c0_2 l0_2 r11 r12 r13 w15 ?_ ?_ ?_ ?_ E14.out).mono ?_
       · exact Kd.C_below hr0_1 HB.out
       · exact hc0_1
       · exact Kd.C_below hr0_2 HB.out
       · exact hc0_2
       rintro e w16 ⟨v17, v18, rfl, hq0, hq1, hq2⟩
       refine ⟨_, rfl, ?_⟩
       obtain ⟨Ao19, co20, eo21⟩ := Kd.R_slice hq0
       subst eo21
       obtain ⟨Ao22, co23, eo24⟩ := Kd.S_slice hq1
       subst eo24
       have I1 := Law.Inv.below I hq2
       have HB1 := Aside0.mk (below_step HB.out hq2)
       have SZ25 := Aside0.mk (show W.heap.size ≤ w15.heap.size ∧ gb4 + 1 ≤ w15.heap.size ∧ w15.heap.size ≤ w16.heap.size from ⟨HB.out.size, I.1.2, hq2.size⟩)
       have I1 := Law.Inv.cons (s := Law.rowI (Kd.int .u8) 5 w15.heap.size w15.heap.size w16.heap.size (fun _ => True) (.slice Ao19 r12.length co20) r12) (Law.rowI_new hq0 (fun _ h => h)) I1
       have I1 := Law.Inv.cons (s := Law.rowsI k67 67 w15.heap.size w15.heap.size w16.heap.size (fun k_ => some k_ ≠ (.slice Ao19 r12.length co20 : Value).ownBlock) (.slice Ao22 r13.length co23) r13) (Law.rowsI_new hq1 (fun _ h => h)) I1
       clear I HB
       have I := I1
       have HB := HB1
       clear I1 HB1
       have hcz_gb1_w16_0 : w16.cell? ⟨gb1, 0, none⟩ = some (.int .i64 a0_0) := (blk_cell (Law.blk_of (I.2.2.2.1.1)) 0).trans rfl
       have hfz_gb1_w16_0 := blk_frozen (Law.blk_of (I.2.2.2.1.1)) 0
       have hcz_gb1_w16_1 : w16.cell? ⟨gb1, 1, none⟩ = some (.slice A0_1 l0_1.length c0_1) := (blk_cell (Law.blk_of (I.2.2.2.1.1)) 1).trans rfl
       have hfz_gb1_w16_1 := blk_frozen (Law.blk_of (I.2.2.2.1.1)) 1
       have hcz_gb1_w16_2 : w16.cell? ⟨gb1, 2, none⟩ = some (.slice A0_2 l0_2.length c0_2) := (blk_cell (Law.blk_of (I.2.2.2.1.1)) 2).trans rfl
       have hfz_gb1_w16_2 := blk_frozen (Law.blk_of (I.2.2.2.1.1)) 2
       have hcz_gb4_w16_0 : w16.cell? ⟨gb4, 0, none⟩ = some (.int .i64 0) := (blk_cell (Law.blk_of (I.2.2.1.1)) 0).trans rfl
       have hfz_gb4_w16_0 := blk_frozen (Law.blk_of (I.2.2.1.1)) 0
       have hcz_gb4_w16_1 : w16.cell? ⟨gb4, 1, none⟩ = some (.slice none 0 0) := (blk_cell (Law.blk_of (I.2.2.1.1)) 1).trans rfl
       have hfz_gb4_w16_1 := blk_frozen (Law.blk_of (I.2.2.1.1)) 1
       have hcz_gb4_w16_2 : w16.cell? ⟨gb4, 2, none⟩ = some (.slice none 0 0) := (blk_cell (Law.blk_of (I.2.2.1.1)) 2).trans rfl
       have hfz_gb4_w16_2 := blk_frozen (Law.blk_of (I.2.2.1.1)) 2)
    | ((with_reducible refine gate_dst (N := 8) rfl ?_)
       refine box_event ?hg (N := 8) ?hd (cs := #[.int .i64 0, .slice none 0 0, .slice none 0 0]) (t := 47) ?hr ?_
       (case hd => rfl)
       (case hg => rfl)
       (case hr => first | (go_simp; done) | (go_simp; rfl))
       intro gb26 hg w27 hbox hb
       have I1 := Law.Inv.below (Law.Inv.on I (fun I => by (with_reducible repeat (first | apply Law.Inv.alloc | apply Law.Inv.drewN | apply Law.Inv.drew)); exact I)) hb
       have HB1 := Aside0.mk (below_step (by repeat (first | (with_reducible first | exact HB.out | apply below_alloc | apply pw_below_drewN | apply below_drew1) | exact HB.out)) hb)
       have SZ28 := Aside0.mk (show W.heap.size ≤ gb26 ∧ w16.heap.size ≤ gb26 ∧ gb26 + 1 ≤ w27.heap.size from ⟨by rw [hg]; exact (by repeat (first | (with_reducible first | exact HB.out | apply below_alloc | apply pw_below_drewN | apply below_drew1) | exact HB.out) : Below W.heap.size W _).size, by rw [hg]; exact (Law.Inv.on I (fun I => by (with_reducible repeat (first | apply Law.Inv.alloc | apply Law.Inv.drewN | apply Law.Inv.drew)); exact I)).1.2, blk_lt hbox⟩)
       have I2 := Law.Inv.cons (s := Law.boxI gb26 #[.int .i64 0, .slice none 0 0, .slice none 0 0] 47) ⟨hbox, blk_lt hbox⟩ I1
       clear I HB hbox hb hg I1
       have I := I2
       have HB := HB1
       clear I2 HB1
       have hne_gb26_gb1 : gb26 ≠ gb1 := (by have := SZ3.out; have := SZ6.out; have := SZ10.out; have := SZ25.out; have := SZ28.out; first | omega | (simp only [Law.rowI, Law.rowsI, Law.boxI]; omega))
       have hne_gb1_gb26 : gb1 ≠ gb26 := (by have := SZ3.out; have := SZ6.out; have := SZ10.out; have := SZ25.out; have := SZ28.out; first | omega | (simp only [Law.rowI, Law.rowsI, Law.boxI]; omega))
       have hne_gb26_gb4 : gb26 ≠ gb4 := (by have := SZ3.out; have := SZ6.out; have := SZ10.out; have := SZ25.out; have := SZ28.out; first | omega | (simp only [Law.rowI, Law.rowsI, Law.boxI]; omega))
       have hne_gb4_gb26 : gb4 ≠ gb26 := (by have := SZ3.out; have := SZ6.out; have := SZ10.out; have := SZ25.out; have := SZ28.out; first | omega | (simp only [Law.rowI, Law.rowsI, Law.boxI]; omega))
       have hcz_gb1_w27_0 : w27.cell? ⟨gb1, 0, none⟩ = some (.int .i64 a0_0) := (blk_cell (Law.blk_of (I.2.2.2.2.1.1)) 0).trans rfl
       have hfz_gb1_w27_0 := blk_frozen (Law.blk_of (I.2.2.2.2.1.1)) 0
       have hcz_gb1_w27_1 : w27.cell? ⟨gb1, 1, none⟩ = some (.slice A0_1 l0_1.length c0_1) := (blk_cell (Law.blk_of (I.2.2.2.2.1.1)) 1).trans rfl
       have hfz_gb1_w27_1 := blk_frozen (Law.blk_of (I.2.2.2.2.1.1)) 1
       have hcz_gb1_w27_2 : w27.cell? ⟨gb1, 2, none⟩ = some (.slice A0_2 l0_2.length c0_2) := (blk_cell (Law.blk_of (I.2.2.2.2.1.1)) 2).trans rfl
       have hfz_gb1_w27_2 := blk_frozen (Law.blk_of (I.2.2.2.2.1.1)) 2
       have hcz_gb4_w27_0 : w27.cell? ⟨gb4, 0, none⟩ = some (.int .i64 0) := (blk_cell (Law.blk_of (I.2.2.2.1.1)) 0).trans rfl
       have hfz_gb4_w27_0 := blk_frozen (Law.blk_of (I.2.2.2.1.1)) 0
       have hcz_gb4_w27_1 : w27.cell? ⟨gb4, 1, none⟩ = some (.slice none 0 0) := (blk_cell (Law.blk_of (I.2.2.2.1.1)) 1).trans rfl
       have hfz_gb4_w27_1 := blk_frozen (Law.blk_of (I.2.2.2.1.1)) 1
       have hcz_gb4_w27_2 : w27.cell? ⟨gb4, 2, none⟩ = some (.slice none 0 0) := (blk_cell (Law.blk_of (I.2.2.2.1.1)) 2).trans rfl
       have hfz_gb4_w27_2 := blk_frozen (Law.blk_of (I.2.2.2.1.1)) 2
       have hcz_gb26_w27_0 : w27.cell? ⟨gb26, 0, none⟩ = some (.int .i64 0) := (blk_cell (Law.blk_of (I.1.1)) 0).trans rfl
       have hfz_gb26_w27_0 := blk_frozen (Law.blk_of (I.1.1)) 0
       have hcz_gb26_w27_1 : w27.cell? ⟨gb26, 1, none⟩ = some (.slice none 0 0) := (blk_cell (Law.blk_of (I.1.1)) 1).trans rfl
       have hfz_gb26_w27_1 := blk_frozen (Law.blk_of (I.1.1)) 1
       have hcz_gb26_w27_2 : w27.cell? ⟨gb26, 2, none⟩ = some (.slice none 0 0) := (blk_cell (Law.blk_of (I.1.1)) 2).trans rfl
       have hfz_gb26_w27_2 := blk_frozen (Law.blk_of (I.1.1)) 2))
  refine Law.post_world (fun wE hwE => ?_)
  have hne : gb4 ≠ gb26 := (by have := SZ3.out; have := SZ6.out; have := SZ10.out; have := SZ25.out; have := SZ28.out; first | omega | (simp only [Law.rowI, Law.rowsI, Law.boxI]; omega))
  have HGR := Aside0.mk (show W.heap.size ≤ gb4 from (by have := SZ3.out; have := SZ6.out; have := SZ10.out; have := SZ25.out; have := SZ28.out; first | omega | (simp only [Law.rowI, Law.rowsI, Law.boxI]; omega)))
  have HG := Aside0.mk (show W.heap.size ≤ gb26 from (by have := SZ3.out; have := SZ6.out; have := SZ10.out; have := SZ25.out; have := SZ28.out; first | omega | (simp only [Law.rowI, Law.rowsI, Law.boxI]; omega)))
  have BR0 := Aside0.mk I.2.2.2.1.1
  have BG0 := Aside0.mk I.1.1
  have HR0 := Aside0.mk (show Kd.R (Kd.int .u8) 5 w27 W.heap.size (fun _ => True) (.slice Ao19 r12.length co20) r12 from Kd.R_lower (Kd.R_mono (I.2.2.1.1) (fun _ _ => trivial)) (by have := SZ3.out; have := SZ6.out; have := SZ10.out; have := SZ25.out; have := SZ28.out; first | omega | (simp only [Law.rowI, Law.rowsI, Law.boxI]; omega)))
  have HS0 := Aside0.mk (show Kd.S k67 67 w27 W.heap.size (fun k_ => some k_ ≠ ((.slice Ao19 r12.length co20) : Value).ownBlock) (.slice Ao22 r13.length co23) r13 from Kd.S_lower (Kd.S_mono (I.2.1.1) (fun k_ hk_ => hk_.2)) (by have := SZ3.out; have := SZ6.out; have := SZ10.out; have := SZ25.out; have := SZ28.out; first | omega | (simp only [Law.rowI, Law.rowsI, Law.boxI]; omega)))
  clear I
  have BE : wE.heap[gb4]? = some (.cells #[.int .i64 r11, (.slice Ao19 r12.length co20), (.slice Ao22 r13.length co23)] 47 (0, 0)) := by
    rw [hwE]
    (with_reducible repeat (first | refine blk_drewN ?_ _ | refine blk_drew ?_ | refine blk_alloc ?_ _))
    refine blk_put (cs := #[.int .i64 r11, (.slice Ao19 r12.length co20), .slice none 0 0]) ?_ 2 _ rfl
    (with_reducible repeat (first | refine blk_drewN ?_ _ | refine blk_drew ?_ | refine blk_alloc ?_ _))
    refine blk_put (cs := #[.int .i64 r11, .slice none 0 0, .slice none 0 0]) ?_ 1 _ rfl
    (with_reducible repeat (first | refine blk_drewN ?_ _ | refine blk_drew ?_ | refine blk_alloc ?_ _))
    refine blk_put (cs := #[.int .i64 0, .slice none 0 0, .slice none 0 0]) ?_ 0 _ rfl
    exact (by (with_reducible repeat (first | refine blk_drewN ?_ _ | refine blk_drew ?_ | refine blk_alloc ?_ _)); refine blk_far ?_ hne _; (with_reducible repeat (first | refine blk_drewN ?_ _ | refine blk_drew ?_ | refine blk_alloc ?_ _)); refine blk_far ?_ hne _; (with_reducible repeat (first | refine blk_drewN ?_ _ | refine blk_drew ?_ | refine blk_alloc ?_ _)); refine blk_far ?_ hne _; (with_reducible repeat (first | refine blk_drewN ?_ _ | refine blk_drew ?_ | refine blk_alloc ?_ _)); exact BR0.out)
  have HOE : Kd.R (Kd.int .u8) 5 wE W.heap.size (fun _ => True) (.slice Ao19 r12.length co20) r12 := by
    rw [hwE]
    (with_reducible repeat (first | apply Kd.R_alloc | apply Kd.R_drewN | apply Kd.R_drew))
    refine Kd.R_mono (Kd.R_far (p := ⟨gb4, 2, none⟩) (Kd.R_far (p := ⟨gb4, 1, none⟩) (Kd.R_far (p := ⟨gb4, 0, none⟩) (Kd.R_types (ok := fun _ => True) (cells := #[.int .i64 0, .slice none 0 0, .slice none 0 0]) (t := 47) ?_ (by (with_reducible repeat (first | refine blk_drewN ?_ _ | refine blk_drew ?_ | refine blk_alloc ?_ _)); refine blk_far ?_ hne _; (with_reducible repeat (first | refine blk_drewN ?_ _ | refine blk_drew ?_ | refine blk_alloc ?_ _)); refine blk_far ?_ hne _; (with_reducible repeat (first | refine blk_drewN ?_ _ | refine blk_drew ?_ | refine blk_alloc ?_ _)); refine blk_far ?_ hne _; (with_reducible repeat (first | refine blk_drewN ?_ _ | refine blk_drew ?_ | refine blk_alloc ?_ _)); exact BR0.out) (by decide)) (fun _ hk => hk.2) _) (fun _ hk => hk.2) _) (fun _ hk => hk.2) _) (fun _ _ => trivial)
    (with_reducible repeat (first | apply Kd.R_alloc | apply Kd.R_drewN | apply Kd.R_drew))
    exact Kd.R_mono (Kd.R_far (p := ⟨gb26, 2, none⟩) (Kd.R_far (p := ⟨gb26, 1, none⟩) (Kd.R_far (p := ⟨gb26, 0, none⟩) (Kd.R_types (Law.rg HR0.out) (by (with_reducible repeat (first | refine blk_drewN ?_ _ | refine blk_drew ?_ | refine blk_alloc ?_ _)); exact BG0.out) (by decide)) (fun _ hk => hk.2) _) (fun _ hk => hk.2) _) (fun _ hk => hk.2) _) (fun _ _ => trivial)
  have HSE : Kd.S k67 67 wE W.heap.size (fun k_ => some k_ ≠ ((.slice Ao19 r12.length co20) : Value).ownBlock) (.slice Ao22 r13.length co23) r13 := by
    rw [hwE]
    (with_reducible repeat (first | apply Kd.S_alloc | apply Kd.S_drewN | apply Kd.S_drew))
    refine Kd.S_mono (Kd.S_far (p := ⟨gb4, 2, none⟩) (Kd.S_far (p := ⟨gb4, 1, none⟩) (Kd.S_far (p := ⟨gb4, 0, none⟩) (Kd.S_types (ok := fun k_ => some k_ ≠ ((.slice Ao19 r12.length co20) : Value).ownBlock) (cells := #[.int .i64 0, .slice none 0 0, .slice none 0 0]) (t := 47) ?_ (by (with_reducible repeat (first | refine blk_drewN ?_ _ | refine blk_drew ?_ | refine blk_alloc ?_ _)); refine blk_far ?_ hne _; (with_reducible repeat (first | refine blk_drewN ?_ _ | refine blk_drew ?_ | refine blk_alloc ?_ _)); refine blk_far ?_ hne _; (with_reducible repeat (first | refine blk_drewN ?_ _ | refine blk_drew ?_ | refine blk_alloc ?_ _)); refine blk_far ?_ hne _; (with_reducible repeat (first | refine blk_drewN ?_ _ | refine blk_drew ?_ | refine blk_alloc ?_ _)); exact BR0.out) (by decide)) (fun _ hk => hk.2) _) (fun _ hk => hk.2) _) (fun _ hk => hk.2) _) (fun _ hk => hk.1)
    (with_reducible repeat (first | apply Kd.S_alloc | apply Kd.S_drewN | apply Kd.S_drew))
    exact Kd.S_mono (Kd.S_far (p := ⟨gb26, 2, none⟩) (Kd.S_far (p := ⟨gb26, 1, none⟩) (Kd.S_far (p := ⟨gb26, 0, none⟩) (Kd.S_types (Law.sg HS0.out) (by (with_reducible repeat (first | refine blk_drewN ?_ _ | refine blk_drew ?_ | refine blk_alloc ?_ _)); exact BG0.out) (by decide)) (fun _ hk => hk.2) _) (fun _ hk => hk.2) _) (fun _ hk => hk.2) _) (fun _ hk => hk.1)
  have HBE : Below W.heap.size W wE := by rw [hwE]; repeat (first | (with_reducible first | exact HB.out | apply below_alloc | apply pw_below_drewN | apply below_drew1 | refine below_set ?_ HGR.out | refine below_set ?_ HG.out) | exact HB.out)
  have BEA := Aside0.mk BE
  clear hwE BE
  have hz0 : wE.cell? ⟨gb4, 0, none⟩ = some (.int .i64 r11) := (blk_cell BEA.out 0).trans rfl; have hzf0 := blk_frozen BEA.out 0; have hz1 : wE.cell? ⟨gb4, 1, none⟩ = some ((.slice Ao19 r12.length co20)) := (blk_cell BEA.out 1).trans rfl; have hzf1 := blk_frozen BEA.out 1; have hz2 : wE.cell? ⟨gb4, 2, none⟩ = some ((.slice Ao22 r13.length co23)) := (blk_cell BEA.out 2).trans rfl; have hzf2 := blk_frozen BEA.out 2
  refine bodyPost_ret (v := .tuple #[.agg #[.int .i64 r11, (.slice Ao19 r12.length co20), (.slice Ao22 r13.length co23)], .int .i64 4]) ?_ rfl ?_
  · simp [results, Try.f55, go_sem, *]
  · exact ⟨_, _, rfl, HOE, HSE, HBE⟩

set_option maxHeartbeats 16000000 in
set_option maxRecDepth 100000 in
theorem spec_DevApply.walk2 (a0_0 : Int) (A0_1 : Option Addr) (c0_1 : Nat) (l0_1 : List Int) (A0_2 : Option Addr) (c0_2 : Nat) (l0_2 : List S67) (A1 : Option Addr) (c1 : Nat) (l1 : List S71) (a2 : Int) (W : World) (hr0_1 : Kd.C (Kd.int .u8) W A0_1 l0_1.length l0_1) (hc0_1 : l0_1.length ≤ c0_1) (hr0_2 : Kd.C k67 W A0_2 l0_2.length l0_2) (hc0_2 : l0_2.length ≤ c0_2) (hr1 : Kd.C k71 W A1 l1.length l1) (hc1 : l1.length ≤ c1) (k : Nat) (r11 : Int) (r12 : List Int) (r13 : List (S67)) (E7 : spec_l1Valid.f k a0_0 l0_1 l0_2 = some true) (E14 : spec_l1CopyDevice.f k a0_0 l0_1 l0_2 = some (r11, r12, r13)) (T : ¬ (l1.length : Int) > 4096) (EF : fitB r12 r13) (n : Nat) (EN : (n : Int) = min (max a2 0) (l1.length : Int)) (q1 : List Int) (q2 : List S67) (q3 : Int) (EA : applyF r11 r12 r13 (l1.take n) = (q1, q2, q3)) (EL : (r12.length : Int) = r11 * 128) (ER : r11 = a0_0) (EC : ∀ s ∈ l1.take n, spec_l1Copy.f k s.f2 = some s.f2) :
    Calls Try.prog 55 #[.agg #[.int .i64 a0_0, .slice A0_1 l0_1.length c0_1, .slice A0_2 l0_2.length c0_2], .slice A1 l1.length c1, .int .i64 a2] W fun e w' => ∃ v1_ v2_ : Value, e = .returned (.tuple #[.agg #[.int .i64 r11, v1_, v2_], .int .i64 q3]) ∧ Kd.R (Kd.int .u8) 5 w' W.heap.size (fun _ => True) v1_ q1 ∧ Kd.S k67 67 w' W.heap.size (fun k_ => some k_ ≠ (v1_ : Value).ownBlock) v2_ q2 ∧ Below W.heap.size W w' := by
  have HB := Aside0.mk (Below.refl W.heap.size W)
  have I : Law.Inv [] W := trivial
  have D0 : decide ((l1.length : Int) > 4096) = false := decide_eq_false T
  have D1 : decide (4096 < (l1.length : Int)) = false := decide_eq_false T
  have HEF := Aside0.mk EF
  have HEN := Aside0.mk EN
  have HEA := Aside0.mk EA
  have HEL := Aside0.mk EL
  have HER := Aside0.mk ER
  have HEC := Aside0.mk EC
  have HNL := Aside0.mk (show n ≤ l1.length by omega)
  have HR1 := Aside0.mk hr1
  clear T EF EN EA EL ER EC

  have hu47 := Try.underlying47
  replace E7 := Aside0.mk E7
  replace E14 := Aside0.mk E14
  go_enter Try.func55, Try.ntmps55
  go_wp2_with (first
    | ((with_reducible refine gate_dst (N := 3) rfl ?_)
       refine box_event ?hg (N := 3) ?hd (cs := #[.int .i64 a0_0, .slice A0_1 l0_1.length c0_1, .slice A0_2 l0_2.length c0_2]) (t := 47) ?hr ?_
       (case hd => rfl)
       (case hg => rfl)
       (case hr => first | (go_simp; done) | (go_simp; rfl))
       intro gb1 hg w2 hbox hb
       have I1 := Law.Inv.below (Law.Inv.on I (fun I => by (with_reducible repeat (first | apply Law.Inv.alloc | apply Law.Inv.drewN | apply Law.Inv.drew)); exact I)) hb
       have HB1 := Aside0.mk (below_step (by repeat (first | (with_reducible first | exact HB.out | apply below_alloc | apply pw_below_drewN | apply below_drew1) | exact HB.out)) hb)
       have SZ3 := Aside0.mk (show W.heap.size ≤ gb1 ∧ gb1 + 1 ≤ w2.heap.size from ⟨by rw [hg]; exact (by repeat (first | (with_reducible first | exact HB.out | apply below_alloc | apply pw_below_drewN | apply below_drew1) | exact HB.out) : Below W.heap.size W _).size, blk_lt hbox⟩)
       have I2 := Law.Inv.cons (s := Law.boxI gb1 #[.int .i64 a0_0, .slice A0_1 l0_1.length c0_1, .slice A0_2 l0_2.length c0_2] 47) ⟨hbox, blk_lt hbox⟩ I1
       clear I HB hbox hb hg I1
       have I := I2
       have HB := HB1
       clear I2 HB1
       have hcz_gb1_w2_0 : w2.cell? ⟨gb1, 0, none⟩ = some (.int .i64 a0_0) := (blk_cell (Law.blk_of (I.1.1)) 0).trans rfl
       have hfz_gb1_w2_0 := blk_frozen (Law.blk_of (I.1.1)) 0
       have hcz_gb1_w2_1 : w2.cell? ⟨gb1, 1, none⟩ = some (.slice A0_1 l0_1.length c0_1) := (blk_cell (Law.blk_of (I.1.1)) 1).trans rfl
       have hfz_gb1_w2_1 := blk_frozen (Law.blk_of (I.1.1)) 1
       have hcz_gb1_w2_2 : w2.cell? ⟨gb1, 2, none⟩ = some (.slice A0_2 l0_2.length c0_2) := (blk_cell (Law.blk_of (I.1.1)) 2).trans rfl
       have hfz_gb1_w2_2 := blk_frozen (Law.blk_of (I.1.1)) 2)
    | ((with_reducible refine gate_dst (N := 6) rfl ?_)
       refine box_event ?hg (N := 6) ?hd (cs := #[.int .i64 0, .slice none 0 0, .slice none 0 0]) (t := 47) ?hr ?_
       (case hd => rfl)
       (case hg => rfl)
       (case hr => first | (go_simp; done) | (go_simp; rfl))
       intro gb4 hg w5 hbox hb
       have I1 := Law.Inv.below (Law.Inv.on I (fun I => by (with_reducible repeat (first | apply Law.Inv.alloc | apply Law.Inv.drewN | apply Law.Inv.drew)); exact I)) hb
       have HB1 := Aside0.mk (below_step (by repeat (first | (with_reducible first | exact HB.out | apply below_alloc | apply pw_below_drewN | apply below_drew1) | exact HB.out)) hb)
       have SZ6 := Aside0.mk (show W.heap.size ≤ gb4 ∧ gb1 + 1 ≤ gb4 ∧ gb4 + 1 ≤ w5.heap.size from ⟨by rw [hg]; exact (by repeat (first | (with_reducible first | exact HB.out | apply below_alloc | apply pw_below_drewN | apply below_drew1) | exact HB.out) : Below W.heap.size W _).size, by rw [hg]; exact (Law.Inv.on I (fun I => by (with_reducible repeat (first | apply Law.Inv.alloc | apply Law.Inv.drewN | apply Law.Inv.drew)); exact I)).1.2, blk_lt hbox⟩)
       have I2 := Law.Inv.cons (s := Law.boxI gb4 #[.int .i64 0, .slice none 0 0, .slice none 0 0] 47) ⟨hbox, blk_lt hbox⟩ I1
       clear I HB hbox hb hg I1
       have I := I2
       have HB := HB1
       clear I2 HB1
       have hne_gb4_gb1 : gb4 ≠ gb1 := (by have := SZ3.out; have := SZ6.out; first | omega | (simp only [Law.rowI, Law.rowsI, Law.boxI]; omega))
       have hne_gb1_gb4 : gb1 ≠ gb4 := (by have := SZ3.out; have := SZ6.out; first | omega | (simp only [Law.rowI, Law.rowsI, Law.boxI]; omega))
       have hcz_gb1_w5_0 : w5.cell? ⟨gb1, 0, none⟩ = some (.int .i64 a0_0) := (blk_cell (Law.blk_of (I.2.1.1)) 0).trans rfl
       have hfz_gb1_w5_0 := blk_frozen (Law.blk_of (I.2.1.1)) 0
       have hcz_gb1_w5_1 : w5.cell? ⟨gb1, 1, none⟩ = some (.slice A0_1 l0_1.length c0_1) := (blk_cell (Law.blk_of (I.2.1.1)) 1).trans rfl
       have hfz_gb1_w5_1 := blk_frozen (Law.blk_of (I.2.1.1)) 1
       have hcz_gb1_w5_2 : w5.cell? ⟨gb1, 2, none⟩ = some (.slice A0_2 l0_2.length c0_2) := (blk_cell (Law.blk_of (I.2.1.1)) 2).trans rfl
       have hfz_gb1_w5_2 := blk_frozen (Law.blk_of (I.2.1.1)) 2
       have hcz_gb4_w5_0 : w5.cell? ⟨gb4, 0, none⟩ = some (.int .i64 0) := (blk_cell (Law.blk_of (I.1.1)) 0).trans rfl
       have hfz_gb4_w5_0 := blk_frozen (Law.blk_of (I.1.1)) 0
       have hcz_gb4_w5_1 : w5.cell? ⟨gb4, 1, none⟩ = some (.slice none 0 0) := (blk_cell (Law.blk_of (I.1.1)) 1).trans rfl
       have hfz_gb4_w5_1 := blk_frozen (Law.blk_of (I.1.1)) 1
       have hcz_gb4_w5_2 : w5.cell? ⟨gb4, 2, none⟩ = some (.slice none 0 0) := (blk_cell (Law.blk_of (I.1.1)) 2).trans rfl
       have hfz_gb4_w5_2 := blk_frozen (Law.blk_of (I.1.1)) 2)
    | ((with_reducible refine gate_callee (f := 70) rfl ?_)
       refine goesL_ (some 15) rfl rfl Try.func70 (by kernel_rfl) rfl #[.agg #[.int .i64 a0_0, .slice A0_1 l0_1.length c0_1, .slice A0_2 l0_2.length c0_2]] rfl (by (try simp only [List.map_toArray, List.map_cons, List.map_nil]); first | done | rfl) ?_
       refine Law.at_world (fun w8 hw1 => ?_)
       have I1 := Law.Inv.to I hw1 (fun I => by (with_reducible repeat (first | apply Law.Inv.alloc | apply Law.Inv.drewN | apply Law.Inv.drew)); exact I)
       have HB1 := Aside0.mk (show Below W.heap.size W w8 by rw [hw1]; repeat (first | (with_reducible first | exact HB.out | apply below_alloc | apply pw_below_drewN | apply below_drew1) | exact HB.out))
       clear I HB hw1
       have I := I1
       have HB := HB1
       clear I1 HB1
       refine (spec_l1Valid.calls k a0_0 A0_1 c0_1 l0_1 A0_2 c0_2 l0_2 true w8 ?_ ?_ ?_ ?_ E7.out).mono ?_
       · exact Kd.C_below hr0_1 HB.out
       · exact hc0_1
       · exact Kd.C_below hr0_2 HB.out
       · exact hc0_2
       rintro e w9 ⟨rfl, hq0⟩
       refine ⟨_, rfl, ?_⟩
       have I1 := Law.Inv.below I hq0
       have HB1 := Aside0.mk (below_step HB.out hq0)
       have SZ10 := Aside0.mk (show W.heap.size ≤ w8.heap.size ∧ gb4 + 1 ≤ w8.heap.size ∧ w8.heap.size ≤ w9.heap.size from ⟨HB.out.size, I.1.2, hq0.size⟩)
       clear I HB
       have I := I1
       have HB := HB1
       clear I1 HB1
       have hcz_gb1_w9_0 : w9.cell? ⟨gb1, 0, none⟩ = some (.int .i64 a0_0) := (blk_cell (Law.blk_of (I.2.1.1)) 0).trans rfl
       have hfz_gb1_w9_0 := blk_frozen (Law.blk_of (I.2.1.1)) 0
       have hcz_gb1_w9_1 : w9.cell? ⟨gb1, 1, none⟩ = some (.slice A0_1 l0_1.length c0_1) := (blk_cell (Law.blk_of (I.2.1.1)) 1).trans rfl
       have hfz_gb1_w9_1 := blk_frozen (Law.blk_of (I.2.1.1)) 1
       have hcz_gb1_w9_2 : w9.cell? ⟨gb1, 2, none⟩ = some (.slice A0_2 l0_2.length c0_2) := (blk_cell (Law.blk_of (I.2.1.1)) 2).trans rfl
       have hfz_gb1_w9_2 := blk_frozen (Law.blk_of (I.2.1.1)) 2
       have hcz_gb4_w9_0 : w9.cell? ⟨gb4, 0, none⟩ = some (.int .i64 0) := (blk_cell (Law.blk_of (I.1.1)) 0).trans rfl
       have hfz_gb4_w9_0 := blk_frozen (Law.blk_of (I.1.1)) 0
       have hcz_gb4_w9_1 : w9.cell? ⟨gb4, 1, none⟩ = some (.slice none 0 0) := (blk_cell (Law.blk_of (I.1.1)) 1).trans rfl
       have hfz_gb4_w9_1 := blk_frozen (Law.blk_of (I.1.1)) 1
       have hcz_gb4_w9_2 : w9.cell? ⟨gb4, 2, none⟩ = some (.slice none 0 0) := (blk_cell (Law.blk_of (I.1.1)) 2).trans rfl
       have hfz_gb4_w9_2 := blk_frozen (Law.blk_of (I.1.1)) 2)
    | ((with_reducible refine gate_callee (f := 86) rfl ?_)
       refine goesL_ (some 19) rfl rfl Try.func86 (by kernel_rfl) rfl #[.agg #[.int .i64 a0_0, .slice A0_1 l0_1.length c0_1, .slice A0_2 l0_2.length c0_2]] rfl (by (try simp only [List.map_toArray, List.map_cons, List.map_nil]); first | done | rfl) ?_
       refine Law.at_world (fun w15 hw1 => ?_)
       have I1 := Law.Inv.to I hw1 (fun I => by (with_reducible repeat (first | apply Law.Inv.alloc | apply Law.Inv.drewN | apply Law.Inv.drew)); exact I)
       have HB1 := Aside0.mk (show Below W.heap.size W w15 by rw [hw1]; repeat (first | (with_reducible first | exact HB.out | apply below_alloc | apply pw_below_drewN | apply below_drew1) | exact HB.out))
       clear I HB hw1
       have I := I1
       have HB := HB1
       clear I1 HB1
       refine (spec_l1CopyDevice.calls k a0_0 A0_1 c0_1 l0_1 A0_2 c0_2 l0_2 r11 r12 r13 w15 ?_ ?_ ?_ ?_ E14.out).mono ?_
       · exact Kd.C_below hr0_1 HB.out
       · exact hc0_1
       · exact Kd.C_below hr0_2 HB.out
       · exact hc0_2
       rintro e w16 ⟨v17, v18, rfl, hq0, hq1, hq2⟩
       refine ⟨_, rfl, ?_⟩
       obtain ⟨Ao19, co20, eo21⟩ := Kd.R_slice hq0
       subst eo21
       obtain ⟨Ao22, co23, eo24⟩ := Kd.S_slice hq1
       subst eo24
       have I1 := Law.Inv.below I hq2
       have HB1 := Aside0.mk (below_step HB.out hq2)
       have SZ25 := Aside0.mk (show W.heap.size ≤ w15.heap.size ∧ gb4 + 1 ≤ w15.heap.size ∧ w15.heap.size ≤ w16.heap.size from ⟨HB.out.size, I.1.2, hq2.size⟩)
       have I1 := Law.Inv.cons (s := Law.rowI (Kd.int .u8) 5 w15.heap.size w15.heap.size w16.heap.size (fun _ => True) (.slice Ao19 r12.length co20) r12) (Law.rowI_new hq0 (fun _ h => h)) I1
       have I1 := Law.Inv.cons (s := Law.rowsI k67 67 w15.heap.size w15.heap.size w16.heap.size (fun k_ => some k_ ≠ (.slice Ao19 r12.length co20 : Value).ownBlock) (.slice Ao22 r13.length co23) r13) (Law.rowsI_new hq1 (fun _ h => h)) I1
       clear I HB
       have I := I1
       have HB := HB1
       clear I1 HB1
       have hcz_gb1_w16_0 : w16.cell? ⟨gb1, 0, none⟩ = some (.int .i64 a0_0) := (blk_cell (Law.blk_of (I.2.2.2.1.1)) 0).trans rfl
       have hfz_gb1_w16_0 := blk_frozen (Law.blk_of (I.2.2.2.1.1)) 0
       have hcz_gb1_w16_1 : w16.cell? ⟨gb1, 1, none⟩ = some (.slice A0_1 l0_1.length c0_1) := (blk_cell (Law.blk_of (I.2.2.2.1.1)) 1).trans rfl
       have hfz_gb1_w16_1 := blk_frozen (Law.blk_of (I.2.2.2.1.1)) 1
       have hcz_gb1_w16_2 : w16.cell? ⟨gb1, 2, none⟩ = some (.slice A0_2 l0_2.length c0_2) := (blk_cell (Law.blk_of (I.2.2.2.1.1)) 2).trans rfl
       have hfz_gb1_w16_2 := blk_frozen (Law.blk_of (I.2.2.2.1.1)) 2
       have hcz_gb4_w16_0 : w16.cell? ⟨gb4, 0, none⟩ = some (.int .i64 0) := (blk_cell (Law.blk_of (I.2.2.1.1)) 0).trans rfl
       have hfz_gb4_w16_0 := blk_frozen (Law.blk_of (I.2.2.1.1)) 0
       have hcz_gb4_w16_1 : w16.cell? ⟨gb4, 1, none⟩ = some (.slice none 0 0) := (blk_cell (Law.blk_of (I.2.2.1.1)) 1).trans rfl
       have hfz_gb4_w16_1 := blk_frozen (Law.blk_of (I.2.2.1.1)) 1
       have hcz_gb4_w16_2 : w16.cell? ⟨gb4, 2, none⟩ = some (.slice none 0 0) := (blk_cell (Law.blk_of (I.2.2.1.1)) 2).trans rfl
       have hfz_gb4_w16_2 := blk_frozen (Law.blk_of (I.2.2.1.1)) 2)
    | ((with_reducible refine gate_dst (N := 8) rfl ?_)
       refine box_event ?hg (N := 8) ?hd (cs := #[.int .i64 0, .slice none 0 0, .slice none 0 0]) (t := 47) ?hr ?_
       (case hd => rfl)
       (case hg => rfl)
       (case hr => first | (go_simp; done) | (go_simp; rfl))
       intro gb26 hg w27 hbox hb
       have I1 := Law.Inv.below (Law.Inv.on I (fun I => by (with_reducible repeat (first | apply Law.Inv.alloc | apply Law.Inv.drewN | apply Law.Inv.drew)); exact I)) hb
       have HB1 := Aside0.mk (below_step (by repeat (first | (with_reducible first | exact HB.out | apply below_alloc | apply pw_below_drewN | apply below_drew1) | exact HB.out)) hb)
       have SZ28 := Aside0.mk (show W.heap.size ≤ gb26 ∧ w16.heap.size ≤ gb26 ∧ gb26 + 1 ≤ w27.heap.size from ⟨by rw [hg]; exact (by repeat (first | (with_reducible first | exact HB.out | apply below_alloc | apply pw_below_drewN | apply below_drew1) | exact HB.out) : Below W.heap.size W _).size, by rw [hg]; exact (Law.Inv.on I (fun I => by (with_reducible repeat (first | apply Law.Inv.alloc | apply Law.Inv.drewN | apply Law.Inv.drew)); exact I)).1.2, blk_lt hbox⟩)
       have I2 := Law.Inv.cons (s := Law.boxI gb26 #[.int .i64 0, .slice none 0 0, .slice none 0 0] 47) ⟨hbox, blk_lt hbox⟩ I1
       clear I HB hbox hb hg I1
       have I := I2
       have HB := HB1
       clear I2 HB1
       have hne_gb26_gb1 : gb26 ≠ gb1 := (by have := SZ3.out; have := SZ6.out; have := SZ10.out; have := SZ25.out; have := SZ28.out; first | omega | (simp only [Law.rowI, Law.rowsI, Law.boxI]; omega))
       have hne_gb1_gb26 : gb1 ≠ gb26 := (by have := SZ3.out; have := SZ6.out; have := SZ10.out; have := SZ25.out; have := SZ28.out; first | omega | (simp only [Law.rowI, Law.rowsI, Law.boxI]; omega))
       have hne_gb26_gb4 : gb26 ≠ gb4 := (by have := SZ3.out; have := SZ6.out; have := SZ10.out; have := SZ25.out; have := SZ28.out; first | omega | (simp only [Law.rowI, Law.rowsI, Law.boxI]; omega))
       have hne_gb4_gb26 : gb4 ≠ gb26 := (by have := SZ3.out; have := SZ6.out; have := SZ10.out; have := SZ25.out; have := SZ28.out; first | omega | (simp only [Law.rowI, Law.rowsI, Law.boxI]; omega))
       have hcz_gb1_w27_0 : w27.cell? ⟨gb1, 0, none⟩ = some (.int .i64 a0_0) := (blk_cell (Law.blk_of (I.2.2.2.2.1.1)) 0).trans rfl
       have hfz_gb1_w27_0 := blk_frozen (Law.blk_of (I.2.2.2.2.1.1)) 0
       have hcz_gb1_w27_1 : w27.cell? ⟨gb1, 1, none⟩ = some (.slice A0_1 l0_1.length c0_1) := (blk_cell (Law.blk_of (I.2.2.2.2.1.1)) 1).trans rfl
       have hfz_gb1_w27_1 := blk_frozen (Law.blk_of (I.2.2.2.2.1.1)) 1
       have hcz_gb1_w27_2 : w27.cell? ⟨gb1, 2, none⟩ = some (.slice A0_2 l0_2.length c0_2) := (blk_cell (Law.blk_of (I.2.2.2.2.1.1)) 2).trans rfl
       have hfz_gb1_w27_2 := blk_frozen (Law.blk_of (I.2.2.2.2.1.1)) 2
       have hcz_gb4_w27_0 : w27.cell? ⟨gb4, 0, none⟩ = some (.int .i64 0) := (blk_cell (Law.blk_of (I.2.2.2.1.1)) 0).trans rfl
       have hfz_gb4_w27_0 := blk_frozen (Law.blk_of (I.2.2.2.1.1)) 0
       have hcz_gb4_w27_1 : w27.cell? ⟨gb4, 1, none⟩ = some (.slice none 0 0) := (blk_cell (Law.blk_of (I.2.2.2.1.1)) 1).trans rfl
       have hfz_gb4_w27_1 := blk_frozen (Law.blk_of (I.2.2.2.1.1)) 1
       have hcz_gb4_w27_2 : w27.cell? ⟨gb4, 2, none⟩ = some (.slice none 0 0) := (blk_cell (Law.blk_of (I.2.2.2.1.1)) 2).trans rfl
       have hfz_gb4_w27_2 := blk_frozen (Law.blk_of (I.2.2.2.1.1)) 2
       have hcz_gb26_w27_0 : w27.cell? ⟨gb26, 0, none⟩ = some (.int .i64 0) := (blk_cell (Law.blk_of (I.1.1)) 0).trans rfl
       have hfz_gb26_w27_0 := blk_frozen (Law.blk_of (I.1.1)) 0
       have hcz_gb26_w27_1 : w27.cell? ⟨gb26, 1, none⟩ = some (.slice none 0 0) := (blk_cell (Law.blk_of (I.1.1)) 1).trans rfl
       have hfz_gb26_w27_1 := blk_frozen (Law.blk_of (I.1.1)) 1
       have hcz_gb26_w27_2 : w27.cell? ⟨gb26, 2, none⟩ = some (.slice none 0 0) := (blk_cell (Law.blk_of (I.1.1)) 2).trans rfl
       have hfz_gb26_w27_2 := blk_frozen (Law.blk_of (I.1.1)) 2))
  refine Law.region_world (fun wL hwL => ?_)
  have I1 : Law.Inv [Law.boxI gb26 #[.int .i64 r11, .slice Ao19 r12.length co20, .slice Ao22 r13.length co23] 47, Law.rowsI k67 67 w15.heap.size w15.heap.size w16.heap.size (fun k_ => some k_ ≠ (.slice Ao19 r12.length co20 : Value).ownBlock) (.slice Ao22 r13.length co23) r13, Law.rowI (Kd.int .u8) 5 w15.heap.size w15.heap.size w16.heap.size (fun _ => True) (.slice Ao19 r12.length co20) r12, Law.boxI gb4 #[.int .i64 0, .slice none 0 0, .slice none 0 0] 47, Law.boxI gb1 #[.int .i64 a0_0, .slice A0_1 l0_1.length c0_1, .slice A0_2 l0_2.length c0_2] 47] wL := by rw [hwL]; (with_reducible repeat (first | apply Law.Inv.alloc | apply Law.Inv.drewN | apply Law.Inv.drew)); refine Law.Inv.put (cs := #[.int .i64 r11, .slice Ao19 r12.length co20, .slice none 0 0]) ?_ (by have := SZ3.out; have := SZ6.out; have := SZ10.out; have := SZ25.out; have := SZ28.out; refine ⟨?_, ?_, ?_, ?_, trivial⟩ <;> simp only [Law.rowI, Law.rowsI, Law.boxI] <;> omega) rfl; (with_reducible repeat (first | apply Law.Inv.alloc | apply Law.Inv.drewN | apply Law.Inv.drew)); refine Law.Inv.put (cs := #[.int .i64 r11, .slice none 0 0, .slice none 0 0]) ?_ (by have := SZ3.out; have := SZ6.out; have := SZ10.out; have := SZ25.out; have := SZ28.out; refine ⟨?_, ?_, ?_, ?_, trivial⟩ <;> simp only [Law.rowI, Law.rowsI, Law.boxI] <;> omega) rfl; (with_reducible repeat (first | apply Law.Inv.alloc | apply Law.Inv.drewN | apply Law.Inv.drew)); refine Law.Inv.put (cs := #[.int .i64 0, .slice none 0 0, .slice none 0 0]) ?_ (by have := SZ3.out; have := SZ6.out; have := SZ10.out; have := SZ25.out; have := SZ28.out; refine ⟨?_, ?_, ?_, ?_, trivial⟩ <;> simp only [Law.rowI, Law.rowsI, Law.boxI] <;> omega) rfl; (with_reducible repeat (first | apply Law.Inv.alloc | apply Law.Inv.drewN | apply Law.Inv.drew)); exact I
  have HB1 := Aside0.mk (show Below W.heap.size W wL by rw [hwL]; repeat (first | (with_reducible first | exact HB.out | apply below_alloc | apply pw_below_drewN | apply below_drew1 | refine below_set ?_ (by have := SZ3.out; have := SZ6.out; have := SZ10.out; have := SZ25.out; have := SZ28.out; first | omega | (simp only [Law.rowI, Law.rowsI, Law.boxI]; omega))) | exact HB.out))
  have HO := Aside0.mk (show Kd.R (Kd.int .u8) 5 wL W.heap.size (fun _ => True) (.slice Ao19 r12.length co20) r12 from Kd.R_lower (Kd.R_mono (I1.2.2.1.1) (fun _ _ => trivial)) (by have := SZ3.out; have := SZ6.out; have := SZ10.out; have := SZ25.out; have := SZ28.out; first | omega | (simp only [Law.rowI, Law.rowsI, Law.boxI]; omega)))
  have HS := Aside0.mk (show Kd.S k67 67 wL W.heap.size (fun k_ => (some k_ ≠ (.slice Ao19 r12.length co20 : Value).ownBlock ∧ k_ ≠ gb26) ∧ True) (.slice Ao22 r13.length co23) r13 from Kd.S_lower (Kd.S_mono (I1.2.1.1) (fun k_ hk_ => ⟨⟨hk_.2, fun e_ => by have z_ := hk_.1; rw [e_] at z_; have := SZ3.out; have := SZ6.out; have := SZ10.out; have := SZ25.out; have := SZ28.out; omega⟩, trivial⟩)) (by have := SZ3.out; have := SZ6.out; have := SZ10.out; have := SZ25.out; have := SZ28.out; first | omega | (simp only [Law.rowI, Law.rowsI, Law.boxI]; omega)))
  have BK := Aside0.mk (show wL.heap[gb26]? = some (.cells #[.int .i64 r11, .slice Ao19 r12.length co20, .slice Ao22 r13.length co23] 47 (0, 0)) from I1.1.1)
  have BR := Aside0.mk (show wL.heap[gb4]? = some (.cells #[.int .i64 0, .slice none 0 0, .slice none 0 0] 47 (0, 0)) from I1.2.2.2.1.1)
  have BD := Aside0.mk (show wL.heap[gb1]? = some (.cells #[.int .i64 a0_0, .slice A0_1 l0_1.length c0_1, .slice A0_2 l0_2.length c0_2] 47 (0, 0)) from I1.2.2.2.2.1.1)
  have hne : gb4 ≠ gb26 := (by have := SZ3.out; have := SZ6.out; have := SZ10.out; have := SZ25.out; have := SZ28.out; first | omega | (simp only [Law.rowI, Law.rowsI, Law.boxI]; omega))
  have hne3 : gb1 ≠ gb26 := (by have := SZ3.out; have := SZ6.out; have := SZ10.out; have := SZ25.out; have := SZ28.out; first | omega | (simp only [Law.rowI, Law.rowsI, Law.boxI]; omega))
  have hne2 := hne.symm
  have HG := Aside0.mk (show W.heap.size ≤ gb26 from (by have := SZ3.out; have := SZ6.out; have := SZ10.out; have := SZ25.out; have := SZ28.out; first | omega | (simp only [Law.rowI, Law.rowsI, Law.boxI]; omega)))
  have HGR := Aside0.mk (show W.heap.size ≤ gb4 from (by have := SZ3.out; have := SZ6.out; have := SZ10.out; have := SZ25.out; have := SZ28.out; first | omega | (simp only [Law.rowI, Law.rowsI, Law.boxI]; omega)))
  clear I HB hwL I1
  have HB := HB1
  clear HB1
  have HM := Aside0.mk (show l1.length ≤ maxLen from HR1.out.2.1)
  go_loopg [9] (n + 1) (fun kq v9 w' => ∃ (i : Nat) (x1 : List Int) (x2 : List S67) (v2 : Value), v9 = .int .i64 (i : Int) ∧ Aside0 (kq + i = n + 1) ∧ Aside0 (i ≤ n) ∧ Aside0 (fitB x1 x2 ∧ x1.length = r12.length) ∧ Aside0 (applyF r11 x1 x2 ((l1.take n).drop i) = (q1, q2, q3)) ∧ Aside0 (Kd.R (Kd.int .u8) 5 w' W.heap.size (fun _ => True) (.slice Ao19 r12.length co20) x1) ∧ Aside0 (Kd.S k67 67 w' W.heap.size (fun k_ => (some k_ ≠ (.slice Ao19 r12.length co20 : Value).ownBlock ∧ k_ ≠ gb26) ∧ True) (v2) x2) ∧ Aside0 (w'.heap[gb26]? = some (.cells #[.int .i64 r11, (.slice Ao19 r12.length co20), v2] 47 (0, 0))) ∧ Aside0 (w'.heap[gb4]? = some (.cells #[.int .i64 0, .slice none 0 0, .slice none 0 0] 47 (0, 0))) ∧ Aside0 (w'.heap[gb1]? = some (.cells #[.int .i64 a0_0, .slice A0_1 l0_1.length c0_1, .slice A0_2 l0_2.length c0_2] 47 (0, 0))) ∧ Aside0 (Below W.heap.size W w'))
  case atStart => exact ⟨0, r12, r13, _, rfl, ⟨by omega⟩, ⟨Nat.zero_le _⟩, ⟨⟨HEF.out, rfl⟩⟩, ⟨by rw [List.drop_zero]; exact HEA.out⟩, ⟨by (with_reducible repeat (first | apply Kd.R_alloc | apply Kd.R_drewN | apply Kd.R_drew)); exact HO.out⟩, ⟨by (with_reducible repeat (first | apply Kd.S_alloc | apply Kd.S_drewN | apply Kd.S_drew)); exact HS.out⟩, ⟨by (with_reducible repeat (first | refine blk_drewN ?_ _ | refine blk_drew ?_ | refine blk_alloc ?_ _)); exact BK.out⟩, ⟨by (with_reducible repeat (first | refine blk_drewN ?_ _ | refine blk_drew ?_ | refine blk_alloc ?_ _)); exact BR.out⟩, ⟨by (with_reducible repeat (first | refine blk_drewN ?_ _ | refine blk_drew ?_ | refine blk_alloc ?_ _)); exact BD.out⟩, ⟨by repeat (first | (with_reducible first | exact HB.out | apply below_alloc | apply pw_below_drewN | apply below_drew1) | exact HB.out)⟩⟩
  case round =>
    clear HO HS BK BR BD HB HEA HEF
    obtain ⟨i, x1, x2, v2, rfl, HA, HL, HX, HE, HO, HS, BK, BR, BD, HB⟩ := hrel
    obtain ⟨Av, cv, ev⟩ := Kd.S_slice HS.out
    subst ev
    have hc0 : wr.cell? ⟨gb26, 0, none⟩ = some (.int .i64 r11) := (blk_cell BK.out 0).trans rfl; have hcf0 := blk_frozen BK.out 0; have hc1 : wr.cell? ⟨gb26, 1, none⟩ = some ((.slice Ao19 r12.length co20)) := (blk_cell BK.out 1).trans rfl; have hcf1 := blk_frozen BK.out 1; have hc2 : wr.cell? ⟨gb26, 2, none⟩ = some (.slice Av x2.length cv) := (blk_cell BK.out 2).trans rfl; have hcf2 := blk_frozen BK.out 2; have hr0 : wr.cell? ⟨gb4, 0, none⟩ = some (.int .i64 0) := (blk_cell BR.out 0).trans rfl; have hrf0 := blk_frozen BR.out 0; have hr1_ : wr.cell? ⟨gb4, 1, none⟩ = some (.slice none 0 0) := (blk_cell BR.out 1).trans rfl; have hrf1 := blk_frozen BR.out 1; have hr2 : wr.cell? ⟨gb4, 2, none⟩ = some (.slice none 0 0) := (blk_cell BR.out 2).trans rfl; have hrf2 := blk_frozen BR.out 2; have hd0 : wr.cell? ⟨gb1, 0, none⟩ = some (.int .i64 a0_0) := (blk_cell BD.out 0).trans rfl; have hdf0 := blk_frozen BD.out 0; have hd1 : wr.cell? ⟨gb1, 1, none⟩ = some (.slice A0_1 l0_1.length c0_1) := (blk_cell BD.out 1).trans rfl; have hdf1 := blk_frozen BD.out 1; have hd2 : wr.cell? ⟨gb1, 2, none⟩ = some (.slice A0_2 l0_2.length c0_2) := (blk_cell BD.out 2).trans rfl; have hdf2 := blk_frozen BD.out 2
    by_cases hn : (i : Int) < (n : Int)
    · have hin : i < n := Int.ofNat_lt.mp hn
      have HIN := Aside0.mk hin
      have hia : (i : Int) < a2 ∧ (i : Int) < (l1.length : Int) := ar1 HEN.out hn
      have D2 : decide ((i : Int) < (l1.length : Int)) = true := decide_eq_true hia.2
      have D3 : decide (i < l1.length) = true := decide_eq_true (Int.ofNat_lt.mp hia.2)
      have D4 : decide ((i : Int) < a2) = true := decide_eq_true hia.1
      have D5 : i < l1.length := Int.ofNat_lt.mp hia.2
      clear hia
      obtain ⟨ad, As, cs, eA, hx0, hx1, hx2, hls, hcs⟩ := at_T71 (Kd.C_below HR1.out HB.out) (i : Int) (Int.natCast_nonneg i) (Int.ofNat_lt.mpr D5)
      subst eA
      simp only [Int.toNat_natCast] at hx0 hx1 hx2
      have HD := Aside0.mk hcs
      have HDC := Aside0.mk hls
      clear hcs hls hn
      generalize hy : rd_T71 l1 (i : Int) = y at *
      have HY := Aside0.mk hy
      clear hy
      by_cases k2 : y.f0 = 2
      · have K2 : decide (y.f0 = 2) = true := decide_eq_true k2
        have K2b : (y.f0 == 2) = true := beq_iff_eq.mpr k2
        have HK2 := Aside0.mk k2
        clear k2
        have hA0 : ∀ o, (wr.alloc o).cell? ⟨gb26, 0, none⟩ = some (.int .i64 r11) := fun o => (blk_cell (blk_alloc BK.out o) 0).trans rfl; have hB0 : ∀ o, (wr.alloc o).cell? ⟨gb4, 0, none⟩ = some (.int .i64 0) := fun o => (blk_cell (blk_alloc BR.out o) 0).trans rfl; have hC0 : ∀ o, (wr.alloc o).frozen? ⟨gb4, 0, none⟩ = false := fun o => blk_frozen (blk_alloc BR.out o) 0; have hE0 : ∀ o, (wr.alloc o).cell? ⟨gb1, 0, none⟩ = some (.int .i64 a0_0) := fun o => (blk_cell (blk_alloc BD.out o) 0).trans rfl; have hA1 : ∀ o, (wr.alloc o).cell? ⟨gb26, 1, none⟩ = some ((.slice Ao19 r12.length co20)) := fun o => (blk_cell (blk_alloc BK.out o) 1).trans rfl; have hB1 : ∀ o, (wr.alloc o).cell? ⟨gb4, 1, none⟩ = some (.slice none 0 0) := fun o => (blk_cell (blk_alloc BR.out o) 1).trans rfl; have hC1 : ∀ o, (wr.alloc o).frozen? ⟨gb4, 1, none⟩ = false := fun o => blk_frozen (blk_alloc BR.out o) 1; have hE1 : ∀ o, (wr.alloc o).cell? ⟨gb1, 1, none⟩ = some (.slice A0_1 l0_1.length c0_1) := fun o => (blk_cell (blk_alloc BD.out o) 1).trans rfl; have hA2 : ∀ o, (wr.alloc o).cell? ⟨gb26, 2, none⟩ = some (.slice Av x2.length cv) := fun o => (blk_cell (blk_alloc BK.out o) 2).trans rfl; have hB2 : ∀ o, (wr.alloc o).cell? ⟨gb4, 2, none⟩ = some (.slice none 0 0) := fun o => (blk_cell (blk_alloc BR.out o) 2).trans rfl; have hC2 : ∀ o, (wr.alloc o).frozen? ⟨gb4, 2, none⟩ = false := fun o => blk_frozen (blk_alloc BR.out o) 2; have hE2 : ∀ o, (wr.alloc o).cell? ⟨gb1, 2, none⟩ = some (.slice A0_2 l0_2.length c0_2) := fun o => (blk_cell (blk_alloc BD.out o) 2).trans rfl
        go_wp2
        clear hA0 hB0 hC0 hE0 hA1 hB1 hC1 hE1 hA2 hB2 hC2 hE2
        have HX2 := Aside0.mk (show x2.length ≤ maxLen from (Kd.S_reads' HS.out).2.2.2.1)
        go_loopg [11] (x2.length + 1) (fun kq1 v11 w' => ∃ (j : Nat), v11 = .int .i64 (j : Int) ∧ Aside0 (kq1 + j = x2.length + 1) ∧ Aside0 (j ≤ x2.length) ∧ Aside0 (Kd.R (Kd.int .u8) 5 w' W.heap.size (fun _ => True) (.slice Ao19 r12.length co20) (setB x1 x2 (fun _ => true) j)) ∧ Aside0 (Kd.S k67 67 w' W.heap.size (fun k_ => (some k_ ≠ (.slice Ao19 r12.length co20 : Value).ownBlock ∧ k_ ≠ gb26) ∧ True) (.slice Av x2.length cv) x2) ∧ Aside0 (w'.heap[gb26]? = some (.cells #[.int .i64 r11, (.slice Ao19 r12.length co20), .slice Av x2.length cv] 47 (0, 0))) ∧ Aside0 (w'.heap[gb4]? = some (.cells #[.int .i64 0, .slice none 0 0, .slice none 0 0] 47 (0, 0))) ∧ Aside0 (w'.heap[gb1]? = some (.cells #[.int .i64 a0_0, .slice A0_1 l0_1.length c0_1, .slice A0_2 l0_2.length c0_2] 47 (0, 0))) ∧ Aside0 (Below W.heap.size W w'))
        case atStart => exact ⟨0, rfl, ⟨by omega⟩, ⟨Nat.zero_le _⟩, ⟨by (with_reducible repeat (first | apply Kd.R_alloc | apply Kd.R_drewN | apply Kd.R_drew)); exact HO.out⟩, ⟨by (with_reducible repeat (first | apply Kd.S_alloc | apply Kd.S_drewN | apply Kd.S_drew)); exact HS.out⟩, ⟨by (with_reducible repeat (first | refine blk_drewN ?_ _ | refine blk_drew ?_ | refine blk_alloc ?_ _)); exact BK.out⟩, ⟨by (with_reducible repeat (first | refine blk_drewN ?_ _ | refine blk_drew ?_ | refine blk_alloc ?_ _)); exact BR.out⟩, ⟨by (with_reducible repeat (first | refine blk_drewN ?_ _ | refine blk_drew ?_ | refine blk_alloc ?_ _)); exact BD.out⟩, ⟨by repeat (first | (with_reducible first | exact HB.out | apply below_alloc | apply pw_below_drewN | apply below_drew1) | exact HB.out)⟩⟩
        case round =>
          clear HO HS BK BR BD HB hc0 hcf0 hd0 hdf0 hc1 hcf1 hd1 hdf1 hc2 hcf2 hd2 hdf2 hr0 hrf0 hr1_ hrf1 hr2 hrf2
          clear hx0 hx1 hx2
          obtain ⟨j, rfl, HA1, HL1, HO, HS, BK, BR, BD, HB⟩ := hrel
          have hc0 : wr.cell? ⟨gb26, 0, none⟩ = some (.int .i64 r11) := (blk_cell BK.out 0).trans rfl; have hcf0 := blk_frozen BK.out 0; have hc1 : wr.cell? ⟨gb26, 1, none⟩ = some ((.slice Ao19 r12.length co20)) := (blk_cell BK.out 1).trans rfl; have hcf1 := blk_frozen BK.out 1; have hc2 : wr.cell? ⟨gb26, 2, none⟩ = some (.slice Av x2.length cv) := (blk_cell BK.out 2).trans rfl; have hcf2 := blk_frozen BK.out 2; have hr0 : wr.cell? ⟨gb4, 0, none⟩ = some (.int .i64 0) := (blk_cell BR.out 0).trans rfl; have hrf0 := blk_frozen BR.out 0; have hr1_ : wr.cell? ⟨gb4, 1, none⟩ = some (.slice none 0 0) := (blk_cell BR.out 1).trans rfl; have hrf1 := blk_frozen BR.out 1; have hr2 : wr.cell? ⟨gb4, 2, none⟩ = some (.slice none 0 0) := (blk_cell BR.out 2).trans rfl; have hrf2 := blk_frozen BR.out 2; have hd0 : wr.cell? ⟨gb1, 0, none⟩ = some (.int .i64 a0_0) := (blk_cell BD.out 0).trans rfl; have hdf0 := blk_frozen BD.out 0; have hd1 : wr.cell? ⟨gb1, 1, none⟩ = some (.slice A0_1 l0_1.length c0_1) := (blk_cell BD.out 1).trans rfl; have hdf1 := blk_frozen BD.out 1; have hd2 : wr.cell? ⟨gb1, 2, none⟩ = some (.slice A0_2 l0_2.length c0_2) := (blk_cell BD.out 2).trans rfl; have hdf2 := blk_frozen BD.out 2
          by_cases hj : (j : Int) < (x2.length : Int)
          · have hjn : j < x2.length := Int.ofNat_lt.mp hj
            have HJN := Aside0.mk hjn
            have E2 : decide ((j : Int) < (x2.length : Int)) = true := decide_eq_true hj
            have E3 : decide (j < x2.length) = true := decide_eq_true hjn
            have E4 : decide (0 ≤ (j : Int)) = true := decide_eq_true (Int.natCast_nonneg j)
            obtain ⟨ag, Ag, cg, eG, hg0, hg1, hgl, hgc⟩ := at_T67 (Kd.S_reads' HS.out).2.2 (j : Int) (Int.natCast_nonneg j) hj
            subst eG
            simp only [Int.toNat_natCast] at hg0 hg1
            obtain ⟨z0, z1, z2⟩ := HX.out.1.2 j hjn
            have hln := setB_length x1 x2 (fun _ => true) HX.out.1 j (Nat.le_of_lt hjn)
            generalize hz : rd_T67 x2 (j : Int) = z at *
            have HZ := Aside0.mk hz
            obtain ⟨lo, hlo⟩ : ∃ lo : Nat, (lo : Int) = z.f0 * 128 := ⟨(z.f0 * 128).toNat, Int.toNat_of_nonneg (Int.mul_nonneg z0 (by decide))⟩
            have HQ := Aside0.mk (And.intro z1 (show lo + 128 ≤ x1.length from ar2 hlo z2))
            have HLO := Aside0.mk hlo
            have HLN := Aside0.mk hln
            have hw : wrap64 (z.f0 * 128) = (lo : Int) := by rw [← hlo]; exact ar3 HX.out.1.1 HQ.out.2
            clear hz z0 z1 z2 hlo hln hgl hgc hj
            go_wp2
            clear hg0 hg1
            go_loopg [13] 129 (fun kq2 v13 w' => ∃ (m : Nat), v13 = .int .i64 (m : Int) ∧ Aside0 (kq2 + m = 129) ∧ Aside0 (m ≤ 128) ∧ Aside0 (Kd.R (Kd.int .u8) 5 w' W.heap.size (fun _ => True) (.slice Ao19 r12.length co20) (ptB (setB x1 x2 (fun _ => true) j) lo z.f1 m)) ∧ Aside0 (Kd.S k67 67 w' W.heap.size (fun k_ => (some k_ ≠ (.slice Ao19 r12.length co20 : Value).ownBlock ∧ k_ ≠ gb26) ∧ True) (.slice (some ag) x2.length cv) x2) ∧ Aside0 (w'.heap[gb26]? = some (.cells #[.int .i64 r11, (.slice Ao19 r12.length co20), .slice (some ag) x2.length cv] 47 (0, 0))) ∧ Aside0 (w'.heap[gb4]? = some (.cells #[.int .i64 0, .slice none 0 0, .slice none 0 0] 47 (0, 0))) ∧ Aside0 (w'.heap[gb1]? = some (.cells #[.int .i64 a0_0, .slice A0_1 l0_1.length c0_1, .slice A0_2 l0_2.length c0_2] 47 (0, 0))) ∧ Aside0 (Below W.heap.size W w'))
            case atStart => exact ⟨0, rfl, ⟨by omega⟩, ⟨Nat.zero_le _⟩, ⟨by (with_reducible repeat (first | apply Kd.R_alloc | apply Kd.R_drewN | apply Kd.R_drew)); exact (by rw [ptB_zero]; exact HO.out)⟩, ⟨by (with_reducible repeat (first | apply Kd.S_alloc | apply Kd.S_drewN | apply Kd.S_drew)); exact HS.out⟩, ⟨by (with_reducible repeat (first | refine blk_drewN ?_ _ | refine blk_drew ?_ | refine blk_alloc ?_ _)); exact BK.out⟩, ⟨by (with_reducible repeat (first | refine blk_drewN ?_ _ | refine blk_drew ?_ | refine blk_alloc ?_ _)); exact BR.out⟩, ⟨by (with_reducible repeat (first | refine blk_drewN ?_ _ | refine blk_drew ?_ | refine blk_alloc ?_ _)); exact BD.out⟩, ⟨by repeat (first | (with_reducible first | exact HB.out | apply below_alloc | apply pw_below_drewN | apply below_drew1) | exact HB.out)⟩⟩
            case round =>
              clear HO HS BK BR BD HB hc0 hcf0 hd0 hdf0 hc1 hcf1 hd1 hdf1 hc2 hcf2 hd2 hdf2 hr0 hrf0 hr1_ hrf1 hr2 hrf2
              obtain ⟨m, rfl, HA2, HL2, HO, HS, BK, BR, BD, HB⟩ := hrel
              have hc0 : wr.cell? ⟨gb26, 0, none⟩ = some (.int .i64 r11) := (blk_cell BK.out 0).trans rfl; have hcf0 := blk_frozen BK.out 0; have hc1 : wr.cell? ⟨gb26, 1, none⟩ = some ((.slice Ao19 r12.length co20)) := (blk_cell BK.out 1).trans rfl; have hcf1 := blk_frozen BK.out 1; have hc2 : wr.cell? ⟨gb26, 2, none⟩ = some (.slice (some ag) x2.length cv) := (blk_cell BK.out 2).trans rfl; have hcf2 := blk_frozen BK.out 2; have hr0 : wr.cell? ⟨gb4, 0, none⟩ = some (.int .i64 0) := (blk_cell BR.out 0).trans rfl; have hrf0 := blk_frozen BR.out 0; have hr1_ : wr.cell? ⟨gb4, 1, none⟩ = some (.slice none 0 0) := (blk_cell BR.out 1).trans rfl; have hrf1 := blk_frozen BR.out 1; have hr2 : wr.cell? ⟨gb4, 2, none⟩ = some (.slice none 0 0) := (blk_cell BR.out 2).trans rfl; have hrf2 := blk_frozen BR.out 2; have hd0 : wr.cell? ⟨gb1, 0, none⟩ = some (.int .i64 a0_0) := (blk_cell BD.out 0).trans rfl; have hdf0 := blk_frozen BD.out 0; have hd1 : wr.cell? ⟨gb1, 1, none⟩ = some (.slice A0_1 l0_1.length c0_1) := (blk_cell BD.out 1).trans rfl; have hdf1 := blk_frozen BD.out 1; have hd2 : wr.cell? ⟨gb1, 2, none⟩ = some (.slice A0_2 l0_2.length c0_2) := (blk_cell BD.out 2).trans rfl; have hdf2 := blk_frozen BD.out 2
              by_cases hm : (m : Int) < 128
              · have hmn : m < 128 := Int.ofNat_lt.mp hm
                have HMN := Aside0.mk hmn
                have F2 : decide ((m : Int) < 128) = true := decide_eq_true hm
                have F3 : decide (0 ≤ (m : Int)) = true := decide_eq_true (Int.natCast_nonneg m)
                have hzl : z.f1.length = 128 := HQ.out.1
                have hml : m < z.f1.length := by rw [hzl]; exact hmn
                have F4 : decide ((m : Int) < (z.f1.length : Int)) = true := decide_eq_true (Int.ofNat_lt.mpr hml)
                have F5 : decide (m < z.f1.length) = true := decide_eq_true hml
                have hlm : lo + m < r12.length := Nat.lt_of_lt_of_le (Nat.add_lt_add_left hmn lo) (HX.out.2 ▸ Nat.le_trans (Nat.le_refl _) HQ.out.2)
                have F6 : decide (((lo + m : Nat) : Int) < (r12.length : Int)) = true := decide_eq_true (Int.ofNat_lt.mpr hlm)
                have F7 : decide (lo + m < r12.length) = true := decide_eq_true hlm
                have hw2 : wrap64 ((lo : Int) + (m : Int)) = ((lo + m : Nat) : Int) := ar4 HX.out.1.1 HX.out.2 hlm
                have HLM := Aside0.mk hlm
                have HZL := Aside0.mk hzl
                clear hzl hm
                go_wp2
                refine Law.region_world (fun w5 hw5 => ?_)
                obtain ⟨w6, hw6⟩ : ∃ w6 : World, w6 = w5.drew := ⟨_, rfl⟩
                have HO6 := Aside0.mk (show Kd.R (Kd.int .u8) 5 w6 W.heap.size (fun _ => True) (.slice Ao19 r12.length co20) (ptB (setB x1 x2 (fun _ => true) j) lo z.f1 m) by rw [hw6, hw5]; (with_reducible repeat (first | apply Kd.R_alloc | apply Kd.R_drewN | apply Kd.R_drew)); exact HO.out)
                have HS6 := Aside0.mk (show Kd.S k67 67 w6 W.heap.size (fun k_ => (some k_ ≠ (.slice Ao19 r12.length co20 : Value).ownBlock ∧ k_ ≠ gb26) ∧ True) (.slice (some ag) x2.length cv) x2 by rw [hw6, hw5]; (with_reducible repeat (first | apply Kd.S_alloc | apply Kd.S_drewN | apply Kd.S_drew)); exact HS.out)
                have BK6 := Aside0.mk (show w6.heap[gb26]? = some (.cells #[.int .i64 r11, (.slice Ao19 r12.length co20), .slice (some ag) x2.length cv] 47 (0, 0)) by rw [hw6, hw5]; (with_reducible repeat (first | refine blk_drewN ?_ _ | refine blk_drew ?_ | refine blk_alloc ?_ _)); exact BK.out)
                have BR6 := Aside0.mk (show w6.heap[gb4]? = some (.cells #[.int .i64 0, .slice none 0 0, .slice none 0 0] 47 (0, 0)) by rw [hw6, hw5]; (with_reducible repeat (first | refine blk_drewN ?_ _ | refine blk_drew ?_ | refine blk_alloc ?_ _)); exact BR.out)
                have BD6 := Aside0.mk (show w6.heap[gb1]? = some (.cells #[.int .i64 a0_0, .slice A0_1 l0_1.length c0_1, .slice A0_2 l0_2.length c0_2] 47 (0, 0)) by rw [hw6, hw5]; (with_reducible repeat (first | refine blk_drewN ?_ _ | refine blk_drew ?_ | refine blk_alloc ?_ _)); exact BD.out)
                have HB6 := Aside0.mk (show Below W.heap.size W w6 by rw [hw6, hw5]; repeat (first | (with_reducible first | exact HB.out | apply below_alloc | apply pw_below_drewN | apply below_drew1) | exact HB.out))
                clear hc0 hcf0 hd0 hdf0 hc1 hcf1 hd1 hdf1 hc2 hcf2 hd2 hdf2 hr0 hrf0 hr1_ hrf1 hr2 hrf2
                clear HO HS BK BR BD HB
                obtain ⟨ag2, Ag2, cg2, eG2, hg0, hg1, hgl, hgc⟩ := at_T67 (Kd.S_reads' HS6.out).2.2 (j : Int) (Int.natCast_nonneg j) (Int.ofNat_lt.mpr HJN.out)
                injection eG2 with eG2
                subst eG2
                simp only [Int.toNat_natCast] at hg0 hg1
                rw [HZ.out] at hg1 hgc
                obtain ⟨adf, hAf, hcf⟩ := (Kd.reads_of_C (enc := Value.int .u8) (d := (0 : Int)) (h1 := fun _ => rfl) hgc).2.2 (by rw [HZL.out]; decide)
                subst hAf
                have hxm := hcf m hml
                clear hcf hg0 hgl
                have hpl : ((ptB (setB x1 x2 (fun _ => true) j) lo z.f1 m)).length = r12.length := by rw [ptB_length (by rw [HLN.out]; exact Nat.le_trans (Nat.add_le_add_left (Nat.le_of_lt HMN.out) lo) HQ.out.2) (Nat.le_of_lt hml), HLN.out]; exact HX.out.2
                have hown := Kd.own_of_R (enc := Value.int .u8) (h1 := fun _ => rfl) HO6.out
                rcases hown.2 with ⟨_, hx0⟩ | ⟨g5, cap5, cur, hv, hb5, hh, hnc, hcm, hcs5, htake⟩
                · exfalso
                  rw [hpl] at hx0
                  exact absurd hx0 (Nat.ne_of_gt (Nat.lt_of_le_of_lt (Nat.zero_le _) hlm))
                injection hv with hv1 hv2 hv3
                subst hv1
                obtain ⟨ad5, hA5, hc5⟩ := (Kd.reads_of_C (enc := Value.int .u8) (d := (0 : Int)) (h1 := fun _ => rfl) (Kd.R_reads' HO6.out).2.2).2.2 (by rw [hpl]; exact Nat.lt_of_le_of_lt (Nat.zero_le _) hlm)
                injection hA5 with hA5
                subst hA5
                have hcl := hc5 (lo + m) (by rw [hpl]; exact hlm)
                have hfz := blk_frozen hh (lo + m)
                have hg5 := Aside0.mk (show W.heap.size ≤ g5 from Kd.R_base HO6.out g5 rfl)
                have hn5 : gb26 ≠ g5 := fun e_ => Kd.R_ne HO6.out BK6.out (by decide) (by rw [e_]; rfl)
                have hn6 : gb4 ≠ g5 := fun e_ => Kd.R_ne HO6.out BR6.out (by decide) (by rw [e_]; rfl)
                have hn7 : gb1 ≠ g5 := fun e_ => Kd.R_ne HO6.out BD6.out (by decide) (by rw [e_]; rfl)
                have HCL := Aside0.mk hcl
                have HFZ := Aside0.mk hfz
                have HPL := Aside0.mk hpl
                clear hc5 hcl hfz hpl hown hb5 hh hnc hcm hcs5 htake hv2 hgc
                refine start_ (n := 16) (S := fun w' => w'.cell? ⟨gb26, 1, none⟩ = some (.slice (some ⟨g5, 0, none⟩) r12.length co20) ∧ w'.cell? ⟨gb26, 2, none⟩ = some (.slice (some ag) x2.length cv) ∧ w'.cell? ⟨(ag.add (j * 2)).block, (ag.add (j * 2)).off + 1, none⟩ = some (.slice (some adf) z.f1.length cg2) ∧ w'.cell? (adf.add m) = some (.int .u8 (z.f1[m]?.getD 0))) (ds := [15]) #[false, false, false, false, false, false, false, false, false, false, false, false, false, false, false, false] (by kernel_rfl) rfl rfl (by rw [← hw6]; exact ⟨(blk_cell BK6.out 1).trans rfl, (blk_cell BK6.out 2).trans rfl, hg1, hxm⟩) ?_
                rw [← hw6]
                intro hHeld
                clear hw6 hw5
                refine pure_ (i := 0) (N := some 60) (v := ?_) (a' := ?_) #[true, false, false, false, false, false, false, false, false, false, false, false, false, false, false, false] rfl rfl (by kernel_rfl) (fun _ _ _ h => h) (Or.inl ⟨by rfl, ?_⟩) ?_ ?_
                rotate_left
                · intro w'
                  go_simp
                  with_reducible rfl
                rotate_left
                · simp only [Act.put, List.setIfInBounds_toArray, List.set_cons_zero, List.set_cons_succ, i64_w, i32_w]
                  rfl
                refine take_ (i := 1) (N := some 61) (v := ?_) (a' := ?_) #[true, true, false, false, false, false, false, false, false, false, false, false, false, false, false, false] rfl rfl (by kernel_rfl) (fun _ _ _ h => h) (Or.inl ⟨by rfl, ?_⟩) hHeld ?_ ?_
                rotate_left
                · rintro w' ⟨s0, s1, s2, s3⟩
                  go_simp
                  with_reducible rfl
                rotate_left
                · simp only [Act.put, List.setIfInBounds_toArray, List.set_cons_zero, List.set_cons_succ, i64_w, i32_w]
                  rfl
                refine pure_ (i := 2) (N := some 62) (v := ?_) (a' := ?_) #[true, true, true, false, false, false, false, false, false, false, false, false, false, false, false, false] rfl rfl (by kernel_rfl) (fun _ _ _ h => h) (Or.inl ⟨by rfl, ?_⟩) ?_ ?_
                rotate_left
                · intro w'
                  go_simp
                  with_reducible rfl
                rotate_left
                · simp only [Act.put, List.setIfInBounds_toArray, List.set_cons_zero, List.set_cons_succ, i64_w, i32_w]
                  rfl
                refine pure_ (i := 3) (N := some 63) (v := ?_) (a' := ?_) #[true, true, true, true, false, false, false, false, false, false, false, false, false, false, false, false] rfl rfl (by kernel_rfl) (fun _ _ _ h => h) (Or.inl ⟨by rfl, ?_⟩) ?_ ?_
                rotate_left
                · intro w'
                  go_simp
                  with_reducible rfl
                rotate_left
                · simp only [Act.put, List.setIfInBounds_toArray, List.set_cons_zero, List.set_cons_succ, i64_w, i32_w]
                  rfl
                refine pure_ (i := 4) (N := some 64) (v := ?_) (a' := ?_) #[true, true, true, true, true, false, false, false, false, false, false, false, false, false, false, false] rfl rfl (by kernel_rfl) (fun _ _ _ h => h) (Or.inl ⟨by rfl, ?_⟩) ?_ ?_
                rotate_left
                · intro w'
                  go_simp
                  with_reducible rfl
                rotate_left
                · simp only [Act.put, List.setIfInBounds_toArray, List.set_cons_zero, List.set_cons_succ, i64_w, i32_w]
                  rfl
                refine pure_ (i := 5) (N := some 65) (v := ?_) (a' := ?_) #[true, true, true, true, true, true, false, false, false, false, false, false, false, false, false, false] rfl rfl (by kernel_rfl) (fun _ _ _ h => h) (Or.inl ⟨by rfl, ?_⟩) ?_ ?_
                rotate_left
                · intro w'
                  go_simp
                  with_reducible rfl
                rotate_left
                · simp only [Act.put, List.setIfInBounds_toArray, List.set_cons_zero, List.set_cons_succ, i64_w, i32_w]
                  rfl
                refine take_ (i := 6) (N := some 66) (v := ?_) (a' := ?_) #[true, true, true, true, true, true, true, false, false, false, false, false, false, false, false, false] rfl rfl (by kernel_rfl) (fun _ _ _ h => h) (Or.inl ⟨by rfl, ?_⟩) hHeld ?_ ?_
                rotate_left
                · rintro w' ⟨s0, s1, s2, s3⟩
                  go_simp
                  with_reducible rfl
                rotate_left
                · simp only [Act.put, List.setIfInBounds_toArray, List.set_cons_zero, List.set_cons_succ, i64_w, i32_w]
                  rfl
                refine pure_ (i := 7) (N := some 67) (v := ?_) (a' := ?_) #[true, true, true, true, true, true, true, true, false, false, false, false, false, false, false, false] rfl rfl (by kernel_rfl) (fun _ _ _ h => h) (Or.inl ⟨by rfl, ?_⟩) ?_ ?_
                rotate_left
                · intro w'
                  go_simp
                  with_reducible rfl
                rotate_left
                · simp only [Act.put, List.setIfInBounds_toArray, List.set_cons_zero, List.set_cons_succ, i64_w, i32_w]
                  rfl
                refine pure_ (i := 8) (N := some 68) (v := ?_) (a' := ?_) #[true, true, true, true, true, true, true, true, true, false, false, false, false, false, false, false] rfl rfl (by kernel_rfl) (fun _ _ _ h => h) (Or.inl ⟨by rfl, ?_⟩) ?_ ?_
                rotate_left
                · intro w'
                  go_simp
                  with_reducible rfl
                rotate_left
                · simp only [Act.put, List.setIfInBounds_toArray, List.set_cons_zero, List.set_cons_succ, i64_w, i32_w]
                  rfl
                refine pure_ (i := 9) (N := some 69) (v := ?_) (a' := ?_) #[true, true, true, true, true, true, true, true, true, true, false, false, false, false, false, false] rfl rfl (by kernel_rfl) (fun _ _ _ h => h) (Or.inl ⟨by rfl, ?_⟩) ?_ ?_
                rotate_left
                · intro w'
                  go_simp
                  with_reducible rfl
                rotate_left
                · simp only [Act.put, List.setIfInBounds_toArray, List.set_cons_zero, List.set_cons_succ, i64_w, i32_w]
                  rfl
                refine take_ (i := 10) (N := some 70) (v := ?_) (a' := ?_) #[true, true, true, true, true, true, true, true, true, true, true, false, false, false, false, false] rfl rfl (by kernel_rfl) (fun _ _ _ h => h) (Or.inl ⟨by rfl, ?_⟩) hHeld ?_ ?_
                rotate_left
                · rintro w' ⟨s0, s1, s2, s3⟩
                  go_simp
                  with_reducible rfl
                rotate_left
                · simp only [Act.put, List.setIfInBounds_toArray, List.set_cons_zero, List.set_cons_succ, i64_w, i32_w]
                  rfl
                refine pure_ (i := 11) (N := some 71) (v := ?_) (a' := ?_) #[true, true, true, true, true, true, true, true, true, true, true, true, false, false, false, false] rfl rfl (by kernel_rfl) (fun _ _ _ h => h) (Or.inl ⟨by rfl, ?_⟩) ?_ ?_
                rotate_left
                · intro w'
                  go_simp
                  with_reducible rfl
                rotate_left
                · simp only [Act.put, List.setIfInBounds_toArray, List.set_cons_zero, List.set_cons_succ, i64_w, i32_w]
                  rfl
                refine pure_ (i := 12) (N := some 72) (v := ?_) (a' := ?_) #[true, true, true, true, true, true, true, true, true, true, true, true, true, false, false, false] rfl rfl (by kernel_rfl) (fun _ _ _ h => h) (Or.inl ⟨by rfl, ?_⟩) ?_ ?_
                rotate_left
                · intro w'
                  go_simp
                  with_reducible rfl
                rotate_left
                · simp only [Act.put, List.setIfInBounds_toArray, List.set_cons_zero, List.set_cons_succ, i64_w, i32_w]
                  rfl
                refine take_ (i := 13) (N := some 73) (v := ?_) (a' := ?_) #[true, true, true, true, true, true, true, true, true, true, true, true, true, true, false, false] rfl rfl (by kernel_rfl) (fun _ _ _ h => h) (Or.inl ⟨by rfl, ?_⟩) hHeld ?_ ?_
                rotate_left
                · rintro w' ⟨s0, s1, s2, s3⟩
                  go_simp
                  with_reducible rfl
                rotate_left
                · simp only [Act.put, List.setIfInBounds_toArray, List.set_cons_zero, List.set_cons_succ, i64_w, i32_w]
                  rfl
                refine pure_ (i := 14) (N := some 74) (v := .pointer (some ⟨g5, lo + m, none⟩)) (a' := ?_) #[true, true, true, true, true, true, true, true, true, true, true, true, true, true, true, false] rfl rfl (by kernel_rfl) (fun _ _ _ h => h) (Or.inl ⟨by rfl, ?_⟩) ?_ ?_
                · intro w'
                  go_simp
                  rw [if_pos (ar5 HLM.out), ar6]
                rotate_left
                · simp only [Act.put, List.setIfInBounds_toArray, List.set_cons_zero, List.set_cons_succ, i64_w, i32_w]
                  rfl
                refine last_ (i := 15) (N := none) #[true, true, true, true, true, true, true, true, true, true, true, true, true, true, true, true] rfl rfl (by kernel_rfl) (by decide) (fun K hK => ?_)
                have hs2 : w6.cell? ⟨g5, lo + m, none⟩ = some (.int .u8 (((ptB (setB x1 x2 (fun _ => true) j) lo z.f1 m))[lo + m]?.getD 0)) := by have h_ := HCL.out; rw [ar18] at h_; exact h_
                have hfs2 := HFZ.out
                refine skip_ (w1 := ?_) (by rfl) rfl ?_ ?_
                rotate_left
                · go_simp
                  rfl
                refine hK.out _ _ ?_
                clear hK K hs2 hfs2
                refine done_ (by kernel_rfl) ?_
                try go_wp2
                go_roundg (128 - m)
                case measure => exact ar7 HA2.out HMN.out
                case rel =>
                  have e_ : wrap64 ((m : Int) + 1) = ((m + 1 : Nat) : Int) := ar12 HMN.out
                  have hset := @ptB_succ (setB x1 x2 (fun _ => true) j) lo m z.f1 (by rw [HLN.out]; exact Nat.lt_of_lt_of_le (Nat.add_lt_add_left HMN.out lo) HQ.out.2) hml
                  have hput := Kd.R_putn (enc := Value.int .u8) (h1 := fun _ => rfl) HO6.out ((lo + m : Nat) : Int) z.f1[m]
                  rw [Int.toNat_natCast, hset] at hput
                  refine ⟨m + 1, by first | rw [e_] | (rw [i64_w, e_]) | rfl, ⟨ar8 HMN.out⟩, ⟨HMN.out⟩, ⟨?_⟩, ⟨?_⟩, ⟨?_⟩, ⟨?_⟩, ⟨?_⟩, ⟨?_⟩⟩
                  · (with_reducible repeat (first | apply Kd.R_alloc | apply Kd.R_drewN | apply Kd.R_drew))
                    exact hput
                  · (with_reducible repeat (first | apply Kd.S_alloc | apply Kd.S_drewN | apply Kd.S_drew))
                    exact Kd.S_mono (Kd.S_far (p := ⟨g5, lo + m, none⟩) HS6.out (fun k_ hk_ e_ => hk_.1.1 (by rw [e_]; rfl)) _) (fun _ h => h)
                  · (with_reducible repeat (first | refine blk_drewN ?_ _ | refine blk_drew ?_ | refine blk_alloc ?_ _))
                    exact blk_far BK6.out hn5 _
                  · (with_reducible repeat (first | refine blk_drewN ?_ _ | refine blk_drew ?_ | refine blk_alloc ?_ _))
                    exact blk_far BR6.out hn6 _
                  · (with_reducible repeat (first | refine blk_drewN ?_ _ | refine blk_drew ?_ | refine blk_alloc ?_ _))
                    exact blk_far BD6.out hn7 _
                  · repeat (first | (with_reducible first | exact below_set HB6.out hg5.out | apply below_alloc | apply pw_below_drewN | apply below_drew1) | exact below_set HB6.out hg5.out)
              · have F2 : decide ((m : Int) < 128) = false := decide_eq_false hm
                have hm8 : m = 128 := ar9 HL2.out hm
                subst hm8
                clear hm
                go_wp2
                go_roundg (x2.length - j)
                case measure => exact ar7 HA1.out HJN.out
                case rel =>
                  have e_ : wrap64 ((j : Int) + 1) = ((j + 1 : Nat) : Int) := ar11 HX2.out HJN.out (Nat.le_refl _)
                  have hsb : setB x1 x2 (fun _ => true) (j + 1) = (ptB (setB x1 x2 (fun _ => true) j) lo z.f1 128) := by
                    rw [show setB x1 x2 (fun _ => true) (j + 1) = putB (setB x1 x2 (fun _ => true) j) ((rd_T67 x2 (j : Int)).f0 * 128).toNat (rd_T67 x2 (j : Int)).f1 from rfl, HZ.out, ← ptB_all, HQ.out.1]
                    rw [ar13 HLO.out]
                  exact ⟨j + 1, by first | rw [e_] | (rw [i64_w, e_]) | rfl, ⟨ar8 HJN.out⟩, ⟨HJN.out⟩, ⟨by (with_reducible repeat (first | apply Kd.R_alloc | apply Kd.R_drewN | apply Kd.R_drew)); exact (by rw [hsb]; exact HO.out)⟩, ⟨by (with_reducible repeat (first | apply Kd.S_alloc | apply Kd.S_drewN | apply Kd.S_drew)); exact HS.out⟩, ⟨by (with_reducible repeat (first | refine blk_drewN ?_ _ | refine blk_drew ?_ | refine blk_alloc ?_ _)); exact BK.out⟩, ⟨by (with_reducible repeat (first | refine blk_drewN ?_ _ | refine blk_drew ?_ | refine blk_alloc ?_ _)); exact BR.out⟩, ⟨by (with_reducible repeat (first | refine blk_drewN ?_ _ | refine blk_drew ?_ | refine blk_alloc ?_ _)); exact BD.out⟩, ⟨by repeat (first | (with_reducible first | exact HB.out | apply below_alloc | apply pw_below_drewN | apply below_drew1) | exact HB.out)⟩⟩
          · have E2 : decide ((j : Int) < (x2.length : Int)) = false := decide_eq_false hj
            have E3 : decide (j < x2.length) = false := decide_eq_false (fun h_ => hj (Int.ofNat_lt.mpr h_))
            have hjj : j = x2.length := ar10 HL1.out hj
            subst hjj
            clear hj
            go_wp2
            go_roundg (n - i)
            case measure => exact ar7 HA.out HIN.out
            case rel =>
              have e_ : wrap64 ((i : Int) + 1) = ((i + 1 : Nat) : Int) := ar11 HM.out HIN.out HNL.out
              refine ⟨i + 1, (setB x1 x2 (fun _ => true) x2.length), [], .slice none 0 0, by first | rw [e_] | (rw [i64_w, e_]) | rfl, ⟨ar8 HIN.out⟩, ⟨HIN.out⟩, ⟨⟨⟨by rw [setB_length x1 x2 _ HX.out.1 _ (Nat.le_refl _)]; exact HX.out.1.1, fun n hn => by simp at hn⟩, by rw [setB_length x1 x2 _ HX.out.1 _ (Nat.le_refl _)]; exact HX.out.2⟩⟩, ⟨?_⟩, ⟨?_⟩, ⟨?_⟩, ⟨?_⟩, ⟨?_⟩, ⟨?_⟩, ⟨?_⟩⟩
              · have h_ := HE.out
                rw [apply_step HIN.out HNL.out HY.out] at h_
                unfold applyOne at h_
                rw [if_neg (fun e_ => absurd (HK2.out.symm.trans e_) (by decide)), if_pos HK2.out] at h_
                rw [if_pos rfl] at h_
                exact h_
              · (with_reducible repeat (first | apply Kd.R_alloc | apply Kd.R_drewN | apply Kd.R_drew))
                exact Kd.R_mono (Kd.R_far (p := ⟨gb26, 2, none⟩) (Kd.R_types HO.out BK.out (by decide)) (fun _ hk => hk.2) _) (fun _ _ => trivial)
              · exact Kd.S_nil _ _ _ _ _
              · (with_reducible repeat (first | refine blk_drewN ?_ _ | refine blk_drew ?_ | refine blk_alloc ?_ _))
                exact blk_put BK.out 2 _ rfl
              · (with_reducible repeat (first | refine blk_drewN ?_ _ | refine blk_drew ?_ | refine blk_alloc ?_ _))
                exact blk_far BR.out hne _
              · (with_reducible repeat (first | refine blk_drewN ?_ _ | refine blk_drew ?_ | refine blk_alloc ?_ _))
                exact blk_far BD.out hne3 _
              · repeat (first | (with_reducible first | exact below_set HB.out HG.out | apply below_alloc | apply pw_below_drewN | apply below_drew1) | exact below_set HB.out HG.out)
      · have K2 : decide (y.f0 = 2) = false := decide_eq_false k2
        have K2b : (y.f0 == 2) = false := beq_eq_false_iff_ne.mpr k2
        have HK2 := Aside0.mk k2
        clear k2
        by_cases k1 : y.f0 = 1
        · have K1 : (y.f0 != 1) = false := bne_eq_false_iff_eq.mpr k1
          have K1b : decide (y.f0 = 1) = true := decide_eq_true k1
          have HK1 := Aside0.mk k1
          clear k1
          by_cases b1 : y.f1 < 0
          · have B1 : decide (y.f1 < 0) = true := decide_eq_true b1
            have hq : (x1, x2, (2 : Int)) = (q1, q2, q3) := by
              have h_ := HE.out
              rw [apply_step HIN.out HNL.out HY.out] at h_
              unfold applyOne at h_
              have hc_ : writeC r11 y.f1 y.f2 x2 = 2 := by
                unfold writeC
                have h0_ := HER.out
                rw [if_pos (.inl b1)]
              rw [if_pos HK1.out] at h_
              simp only [hc_] at h_
              rw [if_neg (by decide)] at h_
              have hl_ : writeL r11 y.f1 y.f2 x2 = x2 := by unfold writeL; rw [hc_]; rfl
              rw [hl_] at h_
              exact h_
            have HQ := Aside0.mk hq
            clear hq
            have hA0 : ∀ o, (wr.alloc o).cell? ⟨gb26, 0, none⟩ = some (.int .i64 r11) := fun o => (blk_cell (blk_alloc BK.out o) 0).trans rfl; have hB0 : ∀ o, (wr.alloc o).cell? ⟨gb4, 0, none⟩ = some (.int .i64 0) := fun o => (blk_cell (blk_alloc BR.out o) 0).trans rfl; have hC0 : ∀ o, (wr.alloc o).frozen? ⟨gb4, 0, none⟩ = false := fun o => blk_frozen (blk_alloc BR.out o) 0; have hE0 : ∀ o, (wr.alloc o).cell? ⟨gb1, 0, none⟩ = some (.int .i64 a0_0) := fun o => (blk_cell (blk_alloc BD.out o) 0).trans rfl; have hA1 : ∀ o, (wr.alloc o).cell? ⟨gb26, 1, none⟩ = some ((.slice Ao19 r12.length co20)) := fun o => (blk_cell (blk_alloc BK.out o) 1).trans rfl; have hB1 : ∀ o, (wr.alloc o).cell? ⟨gb4, 1, none⟩ = some (.slice none 0 0) := fun o => (blk_cell (blk_alloc BR.out o) 1).trans rfl; have hC1 : ∀ o, (wr.alloc o).frozen? ⟨gb4, 1, none⟩ = false := fun o => blk_frozen (blk_alloc BR.out o) 1; have hE1 : ∀ o, (wr.alloc o).cell? ⟨gb1, 1, none⟩ = some (.slice A0_1 l0_1.length c0_1) := fun o => (blk_cell (blk_alloc BD.out o) 1).trans rfl; have hA2 : ∀ o, (wr.alloc o).cell? ⟨gb26, 2, none⟩ = some (.slice Av x2.length cv) := fun o => (blk_cell (blk_alloc BK.out o) 2).trans rfl; have hB2 : ∀ o, (wr.alloc o).cell? ⟨gb4, 2, none⟩ = some (.slice none 0 0) := fun o => (blk_cell (blk_alloc BR.out o) 2).trans rfl; have hC2 : ∀ o, (wr.alloc o).frozen? ⟨gb4, 2, none⟩ = false := fun o => blk_frozen (blk_alloc BR.out o) 2; have hE2 : ∀ o, (wr.alloc o).cell? ⟨gb1, 2, none⟩ = some (.slice A0_2 l0_2.length c0_2) := fun o => (blk_cell (blk_alloc BD.out o) 2).trans rfl
            go_wp2
            refine Law.post_world (fun wE hwE => ?_)
            have BE : wE.heap[gb4]? = some (.cells #[.int .i64 r11, (.slice Ao19 r12.length co20), .slice Av x2.length cv] 47 (0, 0)) := by
              rw [hwE]
              (with_reducible repeat (first | refine blk_drewN ?_ _ | refine blk_drew ?_ | refine blk_alloc ?_ _))
              refine blk_put (cs := #[.int .i64 r11, (.slice Ao19 r12.length co20), .slice none 0 0]) ?_ 2 _ rfl
              (with_reducible repeat (first | refine blk_drewN ?_ _ | refine blk_drew ?_ | refine blk_alloc ?_ _))
              refine blk_put (cs := #[.int .i64 r11, .slice none 0 0, .slice none 0 0]) ?_ 1 _ rfl
              (with_reducible repeat (first | refine blk_drewN ?_ _ | refine blk_drew ?_ | refine blk_alloc ?_ _))
              refine blk_put (cs := #[.int .i64 0, .slice none 0 0, .slice none 0 0]) ?_ 0 _ rfl
              (with_reducible repeat (first | refine blk_drewN ?_ _ | refine blk_drew ?_ | refine blk_alloc ?_ _))
              exact BR.out
            have HOE : Kd.R (Kd.int .u8) 5 wE W.heap.size (fun _ => True) (.slice Ao19 r12.length co20) x1 := by rw [hwE]; (with_reducible repeat (first | apply Kd.R_alloc | apply Kd.R_drewN | apply Kd.R_drew)); exact Kd.R_mono (Kd.R_far (p := ⟨gb4, 2, none⟩) (Kd.R_far (p := ⟨gb4, 1, none⟩) (Kd.R_far (p := ⟨gb4, 0, none⟩) (Kd.R_types (Law.rg HO.out) (by (with_reducible repeat (first | refine blk_drewN ?_ _ | refine blk_drew ?_ | refine blk_alloc ?_ _)); exact BR.out) (by decide)) (fun _ hk => hk.2) _) (fun _ hk => hk.2) _) (fun _ hk => hk.2) _) (fun _ _ => trivial)
            have HSE : Kd.S k67 67 wE W.heap.size (fun k_ => some k_ ≠ ((.slice Ao19 r12.length co20) : Value).ownBlock) (.slice Av x2.length cv) x2 := by rw [hwE]; (with_reducible repeat (first | apply Kd.S_alloc | apply Kd.S_drewN | apply Kd.S_drew)); exact Kd.S_mono (Kd.S_far (p := ⟨gb4, 2, none⟩) (Kd.S_far (p := ⟨gb4, 1, none⟩) (Kd.S_far (p := ⟨gb4, 0, none⟩) (Kd.S_types (Law.sg HS.out) (by (with_reducible repeat (first | refine blk_drewN ?_ _ | refine blk_drew ?_ | refine blk_alloc ?_ _)); exact BR.out) (by decide)) (fun _ hk => hk.2) _) (fun _ hk => hk.2) _) (fun _ hk => hk.2) _) (fun _ hk => hk.1.1.1)
            have HBE : Below W.heap.size W wE := by rw [hwE]; repeat (first | (with_reducible first | exact HB.out | apply below_alloc | apply pw_below_drewN | apply below_drew1 | refine below_set ?_ HGR.out) | exact HB.out)
            have BEA := Aside0.mk BE
            clear hwE BE
            have hz0 : wE.cell? ⟨gb4, 0, none⟩ = some (.int .i64 r11) := (blk_cell BEA.out 0).trans rfl; have hzf0 := blk_frozen BEA.out 0; have hz1 : wE.cell? ⟨gb4, 1, none⟩ = some ((.slice Ao19 r12.length co20)) := (blk_cell BEA.out 1).trans rfl; have hzf1 := blk_frozen BEA.out 1; have hz2 : wE.cell? ⟨gb4, 2, none⟩ = some (.slice Av x2.length cv) := (blk_cell BEA.out 2).trans rfl; have hzf2 := blk_frozen BEA.out 2
            refine bodyPost_ret (v := .tuple #[.agg #[.int .i64 r11, (.slice Ao19 r12.length co20), .slice Av x2.length cv], .int .i64 2]) ?_ rfl ?_
            · simp [results, Try.f55, go_sem, *]
            · have hq := HQ.out
              injection hq with hqa hqb
              injection hqb with hqb hqc
              rw [← hqa, ← hqb, ← hqc]
              exact ⟨_, _, rfl, HOE, HSE, HBE⟩
          · have B1 : decide (y.f1 < 0) = false := decide_eq_false b1
            by_cases b2 : y.f1 ≥ a0_0
            · have B2 : decide (y.f1 ≥ a0_0) = true := decide_eq_true b2
              have B2b : decide (a0_0 ≤ y.f1) = true := decide_eq_true b2
              have hq : (x1, x2, (2 : Int)) = (q1, q2, q3) := by
                have h_ := HE.out
                rw [apply_step HIN.out HNL.out HY.out] at h_
                unfold applyOne at h_
                have hc_ : writeC r11 y.f1 y.f2 x2 = 2 := by
                  unfold writeC
                  have h0_ := HER.out
                  rw [if_pos (.inr (by rw [h0_]; exact b2))]
                rw [if_pos HK1.out] at h_
                simp only [hc_] at h_
                rw [if_neg (by decide)] at h_
                have hl_ : writeL r11 y.f1 y.f2 x2 = x2 := by unfold writeL; rw [hc_]; rfl
                rw [hl_] at h_
                exact h_
              have HQ := Aside0.mk hq
              clear hq
              have hA0 : ∀ o, (wr.alloc o).cell? ⟨gb26, 0, none⟩ = some (.int .i64 r11) := fun o => (blk_cell (blk_alloc BK.out o) 0).trans rfl; have hB0 : ∀ o, (wr.alloc o).cell? ⟨gb4, 0, none⟩ = some (.int .i64 0) := fun o => (blk_cell (blk_alloc BR.out o) 0).trans rfl; have hC0 : ∀ o, (wr.alloc o).frozen? ⟨gb4, 0, none⟩ = false := fun o => blk_frozen (blk_alloc BR.out o) 0; have hE0 : ∀ o, (wr.alloc o).cell? ⟨gb1, 0, none⟩ = some (.int .i64 a0_0) := fun o => (blk_cell (blk_alloc BD.out o) 0).trans rfl; have hA1 : ∀ o, (wr.alloc o).cell? ⟨gb26, 1, none⟩ = some ((.slice Ao19 r12.length co20)) := fun o => (blk_cell (blk_alloc BK.out o) 1).trans rfl; have hB1 : ∀ o, (wr.alloc o).cell? ⟨gb4, 1, none⟩ = some (.slice none 0 0) := fun o => (blk_cell (blk_alloc BR.out o) 1).trans rfl; have hC1 : ∀ o, (wr.alloc o).frozen? ⟨gb4, 1, none⟩ = false := fun o => blk_frozen (blk_alloc BR.out o) 1; have hE1 : ∀ o, (wr.alloc o).cell? ⟨gb1, 1, none⟩ = some (.slice A0_1 l0_1.length c0_1) := fun o => (blk_cell (blk_alloc BD.out o) 1).trans rfl; have hA2 : ∀ o, (wr.alloc o).cell? ⟨gb26, 2, none⟩ = some (.slice Av x2.length cv) := fun o => (blk_cell (blk_alloc BK.out o) 2).trans rfl; have hB2 : ∀ o, (wr.alloc o).cell? ⟨gb4, 2, none⟩ = some (.slice none 0 0) := fun o => (blk_cell (blk_alloc BR.out o) 2).trans rfl; have hC2 : ∀ o, (wr.alloc o).frozen? ⟨gb4, 2, none⟩ = false := fun o => blk_frozen (blk_alloc BR.out o) 2; have hE2 : ∀ o, (wr.alloc o).cell? ⟨gb1, 2, none⟩ = some (.slice A0_2 l0_2.length c0_2) := fun o => (blk_cell (blk_alloc BD.out o) 2).trans rfl
              go_wp2
              refine Law.post_world (fun wE hwE => ?_)
              have BE : wE.heap[gb4]? = some (.cells #[.int .i64 r11, (.slice Ao19 r12.length co20), .slice Av x2.length cv] 47 (0, 0)) := by
                rw [hwE]
                (with_reducible repeat (first | refine blk_drewN ?_ _ | refine blk_drew ?_ | refine blk_alloc ?_ _))
                refine blk_put (cs := #[.int .i64 r11, (.slice Ao19 r12.length co20), .slice none 0 0]) ?_ 2 _ rfl
                (with_reducible repeat (first | refine blk_drewN ?_ _ | refine blk_drew ?_ | refine blk_alloc ?_ _))
                refine blk_put (cs := #[.int .i64 r11, .slice none 0 0, .slice none 0 0]) ?_ 1 _ rfl
                (with_reducible repeat (first | refine blk_drewN ?_ _ | refine blk_drew ?_ | refine blk_alloc ?_ _))
                refine blk_put (cs := #[.int .i64 0, .slice none 0 0, .slice none 0 0]) ?_ 0 _ rfl
                (with_reducible repeat (first | refine blk_drewN ?_ _ | refine blk_drew ?_ | refine blk_alloc ?_ _))
                exact BR.out
              have HOE : Kd.R (Kd.int .u8) 5 wE W.heap.size (fun _ => True) (.slice Ao19 r12.length co20) x1 := by rw [hwE]; (with_reducible repeat (first | apply Kd.R_alloc | apply Kd.R_drewN | apply Kd.R_drew)); exact Kd.R_mono (Kd.R_far (p := ⟨gb4, 2, none⟩) (Kd.R_far (p := ⟨gb4, 1, none⟩) (Kd.R_far (p := ⟨gb4, 0, none⟩) (Kd.R_types (Law.rg HO.out) (by (with_reducible repeat (first | refine blk_drewN ?_ _ | refine blk_drew ?_ | refine blk_alloc ?_ _)); exact BR.out) (by decide)) (fun _ hk => hk.2) _) (fun _ hk => hk.2) _) (fun _ hk => hk.2) _) (fun _ _ => trivial)
              have HSE : Kd.S k67 67 wE W.heap.size (fun k_ => some k_ ≠ ((.slice Ao19 r12.length co20) : Value).ownBlock) (.slice Av x2.length cv) x2 := by rw [hwE]; (with_reducible repeat (first | apply Kd.S_alloc | apply Kd.S_drewN | apply Kd.S_drew)); exact Kd.S_mono (Kd.S_far (p := ⟨gb4, 2, none⟩) (Kd.S_far (p := ⟨gb4, 1, none⟩) (Kd.S_far (p := ⟨gb4, 0, none⟩) (Kd.S_types (Law.sg HS.out) (by (with_reducible repeat (first | refine blk_drewN ?_ _ | refine blk_drew ?_ | refine blk_alloc ?_ _)); exact BR.out) (by decide)) (fun _ hk => hk.2) _) (fun _ hk => hk.2) _) (fun _ hk => hk.2) _) (fun _ hk => hk.1.1.1)
              have HBE : Below W.heap.size W wE := by rw [hwE]; repeat (first | (with_reducible first | exact HB.out | apply below_alloc | apply pw_below_drewN | apply below_drew1 | refine below_set ?_ HGR.out) | exact HB.out)
              have BEA := Aside0.mk BE
              clear hwE BE
              have hz0 : wE.cell? ⟨gb4, 0, none⟩ = some (.int .i64 r11) := (blk_cell BEA.out 0).trans rfl; have hzf0 := blk_frozen BEA.out 0; have hz1 : wE.cell? ⟨gb4, 1, none⟩ = some ((.slice Ao19 r12.length co20)) := (blk_cell BEA.out 1).trans rfl; have hzf1 := blk_frozen BEA.out 1; have hz2 : wE.cell? ⟨gb4, 2, none⟩ = some (.slice Av x2.length cv) := (blk_cell BEA.out 2).trans rfl; have hzf2 := blk_frozen BEA.out 2
              refine bodyPost_ret (v := .tuple #[.agg #[.int .i64 r11, (.slice Ao19 r12.length co20), .slice Av x2.length cv], .int .i64 2]) ?_ rfl ?_
              · simp [results, Try.f55, go_sem, *]
              · have hq := HQ.out
                injection hq with hqa hqb
                injection hqb with hqb hqc
                rw [← hqa, ← hqb, ← hqc]
                exact ⟨_, _, rfl, HOE, HSE, HBE⟩
            · have B2 : decide (y.f1 ≥ a0_0) = false := decide_eq_false b2
              have B2b : decide (a0_0 ≤ y.f1) = false := decide_eq_false b2
              by_cases b3 : (y.f2.length : Int) = 128
              case neg =>
                have B3 : ((y.f2.length : Int) != 128) = true := bne_iff_ne.mpr b3
                have B3b : decide ((y.f2.length : Int) = 128) = false := decide_eq_false b3
                have hq : (x1, x2, (3 : Int)) = (q1, q2, q3) := by
                  have h_ := HE.out
                  rw [apply_step HIN.out HNL.out HY.out] at h_
                  unfold applyOne at h_
                  have hc_ : writeC r11 y.f1 y.f2 x2 = 3 := by
                    unfold writeC
                    have h0_ := HER.out
                    rw [if_neg (by rw [h0_]; exact fun h => h.elim b1 b2), if_pos b3]
                  rw [if_pos HK1.out] at h_
                  simp only [hc_] at h_
                  rw [if_neg (by decide)] at h_
                  have hl_ : writeL r11 y.f1 y.f2 x2 = x2 := by unfold writeL; rw [hc_]; rfl
                  rw [hl_] at h_
                  exact h_
                have HQ := Aside0.mk hq
                clear hq
                have hA0 : ∀ o, (wr.alloc o).cell? ⟨gb26, 0, none⟩ = some (.int .i64 r11) := fun o => (blk_cell (blk_alloc BK.out o) 0).trans rfl; have hB0 : ∀ o, (wr.alloc o).cell? ⟨gb4, 0, none⟩ = some (.int .i64 0) := fun o => (blk_cell (blk_alloc BR.out o) 0).trans rfl; have hC0 : ∀ o, (wr.alloc o).frozen? ⟨gb4, 0, none⟩ = false := fun o => blk_frozen (blk_alloc BR.out o) 0; have hE0 : ∀ o, (wr.alloc o).cell? ⟨gb1, 0, none⟩ = some (.int .i64 a0_0) := fun o => (blk_cell (blk_alloc BD.out o) 0).trans rfl; have hA1 : ∀ o, (wr.alloc o).cell? ⟨gb26, 1, none⟩ = some ((.slice Ao19 r12.length co20)) := fun o => (blk_cell (blk_alloc BK.out o) 1).trans rfl; have hB1 : ∀ o, (wr.alloc o).cell? ⟨gb4, 1, none⟩ = some (.slice none 0 0) := fun o => (blk_cell (blk_alloc BR.out o) 1).trans rfl; have hC1 : ∀ o, (wr.alloc o).frozen? ⟨gb4, 1, none⟩ = false := fun o => blk_frozen (blk_alloc BR.out o) 1; have hE1 : ∀ o, (wr.alloc o).cell? ⟨gb1, 1, none⟩ = some (.slice A0_1 l0_1.length c0_1) := fun o => (blk_cell (blk_alloc BD.out o) 1).trans rfl; have hA2 : ∀ o, (wr.alloc o).cell? ⟨gb26, 2, none⟩ = some (.slice Av x2.length cv) := fun o => (blk_cell (blk_alloc BK.out o) 2).trans rfl; have hB2 : ∀ o, (wr.alloc o).cell? ⟨gb4, 2, none⟩ = some (.slice none 0 0) := fun o => (blk_cell (blk_alloc BR.out o) 2).trans rfl; have hC2 : ∀ o, (wr.alloc o).frozen? ⟨gb4, 2, none⟩ = false := fun o => blk_frozen (blk_alloc BR.out o) 2; have hE2 : ∀ o, (wr.alloc o).cell? ⟨gb1, 2, none⟩ = some (.slice A0_2 l0_2.length c0_2) := fun o => (blk_cell (blk_alloc BD.out o) 2).trans rfl
                go_wp2
                refine Law.post_world (fun wE hwE => ?_)
                have BE : wE.heap[gb4]? = some (.cells #[.int .i64 r11, (.slice Ao19 r12.length co20), .slice Av x2.length cv] 47 (0, 0)) := by
                  rw [hwE]
                  (with_reducible repeat (first | refine blk_drewN ?_ _ | refine blk_drew ?_ | refine blk_alloc ?_ _))
                  refine blk_put (cs := #[.int .i64 r11, (.slice Ao19 r12.length co20), .slice none 0 0]) ?_ 2 _ rfl
                  (with_reducible repeat (first | refine blk_drewN ?_ _ | refine blk_drew ?_ | refine blk_alloc ?_ _))
                  refine blk_put (cs := #[.int .i64 r11, .slice none 0 0, .slice none 0 0]) ?_ 1 _ rfl
                  (with_reducible repeat (first | refine blk_drewN ?_ _ | refine blk_drew ?_ | refine blk_alloc ?_ _))
                  refine blk_put (cs := #[.int .i64 0, .slice none 0 0, .slice none 0 0]) ?_ 0 _ rfl
                  (with_reducible repeat (first | refine blk_drewN ?_ _ | refine blk_drew ?_ | refine blk_alloc ?_ _))
                  exact BR.out
                have HOE : Kd.R (Kd.int .u8) 5 wE W.heap.size (fun _ => True) (.slice Ao19 r12.length co20) x1 := by rw [hwE]; (with_reducible repeat (first | apply Kd.R_alloc | apply Kd.R_drewN | apply Kd.R_drew)); exact Kd.R_mono (Kd.R_far (p := ⟨gb4, 2, none⟩) (Kd.R_far (p := ⟨gb4, 1, none⟩) (Kd.R_far (p := ⟨gb4, 0, none⟩) (Kd.R_types (Law.rg HO.out) (by (with_reducible repeat (first | refine blk_drewN ?_ _ | refine blk_drew ?_ | refine blk_alloc ?_ _)); exact BR.out) (by decide)) (fun _ hk => hk.2) _) (fun _ hk => hk.2) _) (fun _ hk => hk.2) _) (fun _ _ => trivial)
                have HSE : Kd.S k67 67 wE W.heap.size (fun k_ => some k_ ≠ ((.slice Ao19 r12.length co20) : Value).ownBlock) (.slice Av x2.length cv) x2 := by rw [hwE]; (with_reducible repeat (first | apply Kd.S_alloc | apply Kd.S_drewN | apply Kd.S_drew)); exact Kd.S_mono (Kd.S_far (p := ⟨gb4, 2, none⟩) (Kd.S_far (p := ⟨gb4, 1, none⟩) (Kd.S_far (p := ⟨gb4, 0, none⟩) (Kd.S_types (Law.sg HS.out) (by (with_reducible repeat (first | refine blk_drewN ?_ _ | refine blk_drew ?_ | refine blk_alloc ?_ _)); exact BR.out) (by decide)) (fun _ hk => hk.2) _) (fun _ hk => hk.2) _) (fun _ hk => hk.2) _) (fun _ hk => hk.1.1.1)
                have HBE : Below W.heap.size W wE := by rw [hwE]; repeat (first | (with_reducible first | exact HB.out | apply below_alloc | apply pw_below_drewN | apply below_drew1 | refine below_set ?_ HGR.out) | exact HB.out)
                have BEA := Aside0.mk BE
                clear hwE BE
                have hz0 : wE.cell? ⟨gb4, 0, none⟩ = some (.int .i64 r11) := (blk_cell BEA.out 0).trans rfl; have hzf0 := blk_frozen BEA.out 0; have hz1 : wE.cell? ⟨gb4, 1, none⟩ = some ((.slice Ao19 r12.length co20)) := (blk_cell BEA.out 1).trans rfl; have hzf1 := blk_frozen BEA.out 1; have hz2 : wE.cell? ⟨gb4, 2, none⟩ = some (.slice Av x2.length cv) := (blk_cell BEA.out 2).trans rfl; have hzf2 := blk_frozen BEA.out 2
                refine bodyPost_ret (v := .tuple #[.agg #[.int .i64 r11, (.slice Ao19 r12.length co20), .slice Av x2.length cv], .int .i64 3]) ?_ rfl ?_
                · simp [results, Try.f55, go_sem, *]
                · have hq := HQ.out
                  injection hq with hqa hqb
                  injection hqb with hqb hqc
                  rw [← hqa, ← hqb, ← hqc]
                  exact ⟨_, _, rfl, HOE, HSE, HBE⟩
              have B3 : ((y.f2.length : Int) != 128) = false := by rw [b3]; rfl
              by_cases b4 : (x2.length : Int) ≥ 2048
              · have B4 : decide ((x2.length : Int) ≥ 2048) = true := decide_eq_true b4
                have B4b : decide (2048 ≤ (x2.length : Int)) = true := decide_eq_true b4
                have B4c : decide (2048 ≤ x2.length) = true := decide_eq_true (ar14 b4)
                have hq : (x1, x2, (4 : Int)) = (q1, q2, q3) := by
                  have h_ := HE.out
                  rw [apply_step HIN.out HNL.out HY.out] at h_
                  unfold applyOne at h_
                  have hc_ : writeC r11 y.f1 y.f2 x2 = 4 := by
                    unfold writeC
                    have h0_ := HER.out
                    rw [if_neg (by rw [h0_]; exact fun h => h.elim b1 b2), if_neg (fun h => h b3), if_pos b4]
                  rw [if_pos HK1.out] at h_
                  simp only [hc_] at h_
                  rw [if_neg (by decide)] at h_
                  have hl_ : writeL r11 y.f1 y.f2 x2 = x2 := by unfold writeL; rw [hc_]; rfl
                  rw [hl_] at h_
                  exact h_
                have HQ := Aside0.mk hq
                clear hq
                have hA0 : ∀ o, (wr.alloc o).cell? ⟨gb26, 0, none⟩ = some (.int .i64 r11) := fun o => (blk_cell (blk_alloc BK.out o) 0).trans rfl; have hB0 : ∀ o, (wr.alloc o).cell? ⟨gb4, 0, none⟩ = some (.int .i64 0) := fun o => (blk_cell (blk_alloc BR.out o) 0).trans rfl; have hC0 : ∀ o, (wr.alloc o).frozen? ⟨gb4, 0, none⟩ = false := fun o => blk_frozen (blk_alloc BR.out o) 0; have hE0 : ∀ o, (wr.alloc o).cell? ⟨gb1, 0, none⟩ = some (.int .i64 a0_0) := fun o => (blk_cell (blk_alloc BD.out o) 0).trans rfl; have hA1 : ∀ o, (wr.alloc o).cell? ⟨gb26, 1, none⟩ = some ((.slice Ao19 r12.length co20)) := fun o => (blk_cell (blk_alloc BK.out o) 1).trans rfl; have hB1 : ∀ o, (wr.alloc o).cell? ⟨gb4, 1, none⟩ = some (.slice none 0 0) := fun o => (blk_cell (blk_alloc BR.out o) 1).trans rfl; have hC1 : ∀ o, (wr.alloc o).frozen? ⟨gb4, 1, none⟩ = false := fun o => blk_frozen (blk_alloc BR.out o) 1; have hE1 : ∀ o, (wr.alloc o).cell? ⟨gb1, 1, none⟩ = some (.slice A0_1 l0_1.length c0_1) := fun o => (blk_cell (blk_alloc BD.out o) 1).trans rfl; have hA2 : ∀ o, (wr.alloc o).cell? ⟨gb26, 2, none⟩ = some (.slice Av x2.length cv) := fun o => (blk_cell (blk_alloc BK.out o) 2).trans rfl; have hB2 : ∀ o, (wr.alloc o).cell? ⟨gb4, 2, none⟩ = some (.slice none 0 0) := fun o => (blk_cell (blk_alloc BR.out o) 2).trans rfl; have hC2 : ∀ o, (wr.alloc o).frozen? ⟨gb4, 2, none⟩ = false := fun o => blk_frozen (blk_alloc BR.out o) 2; have hE2 : ∀ o, (wr.alloc o).cell? ⟨gb1, 2, none⟩ = some (.slice A0_2 l0_2.length c0_2) := fun o => (blk_cell (blk_alloc BD.out o) 2).trans rfl
                go_wp2
                refine Law.post_world (fun wE hwE => ?_)
                have BE : wE.heap[gb4]? = some (.cells #[.int .i64 r11, (.slice Ao19 r12.length co20), .slice Av x2.length cv] 47 (0, 0)) := by
                  rw [hwE]
                  (with_reducible repeat (first | refine blk_drewN ?_ _ | refine blk_drew ?_ | refine blk_alloc ?_ _))
                  refine blk_put (cs := #[.int .i64 r11, (.slice Ao19 r12.length co20), .slice none 0 0]) ?_ 2 _ rfl
                  (with_reducible repeat (first | refine blk_drewN ?_ _ | refine blk_drew ?_ | refine blk_alloc ?_ _))
                  refine blk_put (cs := #[.int .i64 r11, .slice none 0 0, .slice none 0 0]) ?_ 1 _ rfl
                  (with_reducible repeat (first | refine blk_drewN ?_ _ | refine blk_drew ?_ | refine blk_alloc ?_ _))
                  refine blk_put (cs := #[.int .i64 0, .slice none 0 0, .slice none 0 0]) ?_ 0 _ rfl
                  (with_reducible repeat (first | refine blk_drewN ?_ _ | refine blk_drew ?_ | refine blk_alloc ?_ _))
                  exact BR.out
                have HOE : Kd.R (Kd.int .u8) 5 wE W.heap.size (fun _ => True) (.slice Ao19 r12.length co20) x1 := by rw [hwE]; (with_reducible repeat (first | apply Kd.R_alloc | apply Kd.R_drewN | apply Kd.R_drew)); exact Kd.R_mono (Kd.R_far (p := ⟨gb4, 2, none⟩) (Kd.R_far (p := ⟨gb4, 1, none⟩) (Kd.R_far (p := ⟨gb4, 0, none⟩) (Kd.R_types (Law.rg HO.out) (by (with_reducible repeat (first | refine blk_drewN ?_ _ | refine blk_drew ?_ | refine blk_alloc ?_ _)); exact BR.out) (by decide)) (fun _ hk => hk.2) _) (fun _ hk => hk.2) _) (fun _ hk => hk.2) _) (fun _ _ => trivial)
                have HSE : Kd.S k67 67 wE W.heap.size (fun k_ => some k_ ≠ ((.slice Ao19 r12.length co20) : Value).ownBlock) (.slice Av x2.length cv) x2 := by rw [hwE]; (with_reducible repeat (first | apply Kd.S_alloc | apply Kd.S_drewN | apply Kd.S_drew)); exact Kd.S_mono (Kd.S_far (p := ⟨gb4, 2, none⟩) (Kd.S_far (p := ⟨gb4, 1, none⟩) (Kd.S_far (p := ⟨gb4, 0, none⟩) (Kd.S_types (Law.sg HS.out) (by (with_reducible repeat (first | refine blk_drewN ?_ _ | refine blk_drew ?_ | refine blk_alloc ?_ _)); exact BR.out) (by decide)) (fun _ hk => hk.2) _) (fun _ hk => hk.2) _) (fun _ hk => hk.2) _) (fun _ hk => hk.1.1.1)
                have HBE : Below W.heap.size W wE := by rw [hwE]; repeat (first | (with_reducible first | exact HB.out | apply below_alloc | apply pw_below_drewN | apply below_drew1 | refine below_set ?_ HGR.out) | exact HB.out)
                have BEA := Aside0.mk BE
                clear hwE BE
                have hz0 : wE.cell? ⟨gb4, 0, none⟩ = some (.int .i64 r11) := (blk_cell BEA.out 0).trans rfl; have hzf0 := blk_frozen BEA.out 0; have hz1 : wE.cell? ⟨gb4, 1, none⟩ = some ((.slice Ao19 r12.length co20)) := (blk_cell BEA.out 1).trans rfl; have hzf1 := blk_frozen BEA.out 1; have hz2 : wE.cell? ⟨gb4, 2, none⟩ = some (.slice Av x2.length cv) := (blk_cell BEA.out 2).trans rfl; have hzf2 := blk_frozen BEA.out 2
                refine bodyPost_ret (v := .tuple #[.agg #[.int .i64 r11, (.slice Ao19 r12.length co20), .slice Av x2.length cv], .int .i64 4]) ?_ rfl ?_
                · simp [results, Try.f55, go_sem, *]
                · have hq := HQ.out
                  injection hq with hqa hqb
                  injection hqb with hqb hqc
                  rw [← hqa, ← hqb, ← hqc]
                  exact ⟨_, _, rfl, HOE, HSE, HBE⟩
              · have B4 : decide ((x2.length : Int) ≥ 2048) = false := decide_eq_false b4
                have B4b : decide (2048 ≤ (x2.length : Int)) = false := decide_eq_false b4
                have B4c : decide (2048 ≤ x2.length) = false := decide_eq_false (ar16 b4)
                have hc0_ : writeC r11 y.f1 y.f2 x2 = 0 := by
                  unfold writeC
                  have h0_ := HER.out
                  rw [if_neg (by rw [h0_]; exact fun h => h.elim b1 b2), if_neg (fun h => h b3), if_neg b4]
                have HC0 := Aside0.mk hc0_
                have HL4 := Aside0.mk b4
                clear hc0_
                have hA0 : ∀ o, (wr.alloc o).cell? ⟨gb26, 0, none⟩ = some (.int .i64 r11) := fun o => (blk_cell (blk_alloc BK.out o) 0).trans rfl; have hB0 : ∀ o, (wr.alloc o).cell? ⟨gb4, 0, none⟩ = some (.int .i64 0) := fun o => (blk_cell (blk_alloc BR.out o) 0).trans rfl; have hC0 : ∀ o, (wr.alloc o).frozen? ⟨gb4, 0, none⟩ = false := fun o => blk_frozen (blk_alloc BR.out o) 0; have hE0 : ∀ o, (wr.alloc o).cell? ⟨gb1, 0, none⟩ = some (.int .i64 a0_0) := fun o => (blk_cell (blk_alloc BD.out o) 0).trans rfl; have hA1 : ∀ o, (wr.alloc o).cell? ⟨gb26, 1, none⟩ = some ((.slice Ao19 r12.length co20)) := fun o => (blk_cell (blk_alloc BK.out o) 1).trans rfl; have hB1 : ∀ o, (wr.alloc o).cell? ⟨gb4, 1, none⟩ = some (.slice none 0 0) := fun o => (blk_cell (blk_alloc BR.out o) 1).trans rfl; have hC1 : ∀ o, (wr.alloc o).frozen? ⟨gb4, 1, none⟩ = false := fun o => blk_frozen (blk_alloc BR.out o) 1; have hE1 : ∀ o, (wr.alloc o).cell? ⟨gb1, 1, none⟩ = some (.slice A0_1 l0_1.length c0_1) := fun o => (blk_cell (blk_alloc BD.out o) 1).trans rfl; have hA2 : ∀ o, (wr.alloc o).cell? ⟨gb26, 2, none⟩ = some (.slice Av x2.length cv) := fun o => (blk_cell (blk_alloc BK.out o) 2).trans rfl; have hB2 : ∀ o, (wr.alloc o).cell? ⟨gb4, 2, none⟩ = some (.slice none 0 0) := fun o => (blk_cell (blk_alloc BR.out o) 2).trans rfl; have hC2 : ∀ o, (wr.alloc o).frozen? ⟨gb4, 2, none⟩ = false := fun o => blk_frozen (blk_alloc BR.out o) 2; have hE2 : ∀ o, (wr.alloc o).cell? ⟨gb1, 2, none⟩ = some (.slice A0_2 l0_2.length c0_2) := fun o => (blk_cell (blk_alloc BD.out o) 2).trans rfl
                go_wp2
                clear hA0 hB0 hC0 hE0 hA1 hB1 hC1 hE1 hA2 hB2 hC2 hE2
                clear hc0 hcf0 hd0 hdf0 hc1 hcf1 hd1 hdf1 hc2 hcf2 hd2 hdf2 hr0 hrf0 hr1_ hrf1 hr2 hrf2
                clear hx0 hx1 hx2
                refine Law.region_world (fun w5 hw5 => ?_)
                obtain ⟨w6, hw6⟩ : ∃ w6 : World, w6 = w5.drew := ⟨_, rfl⟩
                have HO6 := Aside0.mk (show Kd.R (Kd.int .u8) 5 w6 W.heap.size (fun _ => True) (.slice Ao19 r12.length co20) x1 by rw [hw6, hw5]; (with_reducible repeat (first | apply Kd.R_alloc | apply Kd.R_drewN | apply Kd.R_drew)); exact HO.out)
                have HS6 := Aside0.mk (show Kd.S k67 67 w6 W.heap.size (fun k_ => (some k_ ≠ (.slice Ao19 r12.length co20 : Value).ownBlock ∧ k_ ≠ gb26) ∧ True) (.slice Av x2.length cv) x2 by rw [hw6, hw5]; (with_reducible repeat (first | apply Kd.S_alloc | apply Kd.S_drewN | apply Kd.S_drew)); exact HS.out)
                have BK6 := Aside0.mk (show w6.heap[gb26]? = some (.cells #[.int .i64 r11, (.slice Ao19 r12.length co20), .slice Av x2.length cv] 47 (0, 0)) by rw [hw6, hw5]; (with_reducible repeat (first | refine blk_drewN ?_ _ | refine blk_drew ?_ | refine blk_alloc ?_ _)); exact BK.out)
                have BR6 := Aside0.mk (show w6.heap[gb4]? = some (.cells #[.int .i64 0, .slice none 0 0, .slice none 0 0] 47 (0, 0)) by rw [hw6, hw5]; (with_reducible repeat (first | refine blk_drewN ?_ _ | refine blk_drew ?_ | refine blk_alloc ?_ _)); exact BR.out)
                have BD6 := Aside0.mk (show w6.heap[gb1]? = some (.cells #[.int .i64 a0_0, .slice A0_1 l0_1.length c0_1, .slice A0_2 l0_2.length c0_2] 47 (0, 0)) by rw [hw6, hw5]; (with_reducible repeat (first | refine blk_drewN ?_ _ | refine blk_drew ?_ | refine blk_alloc ?_ _)); exact BD.out)
                have BP6 := Aside0.mk (show w6.heap[wr.heap.size]? = some (.cells #[.int .i64 y.f0, .int .i64 y.f1, .slice As y.f2.length cs] 71 (0, 0)) by rw [hw6, hw5]; exact blk_new _ _)
                have HB6 := Aside0.mk (show Below W.heap.size W w6 by rw [hw6, hw5]; repeat (first | (with_reducible first | exact HB.out | apply below_alloc | apply pw_below_drewN | apply below_drew1) | exact HB.out))
                have HD6 := Aside0.mk (show (Kd.int .u8).C w6 As y.f2.length y.f2 by rw [hw6, hw5]; repeat (first | exact HD.out | (with_reducible refine Kd.C_alloc ?_ _) | (with_reducible refine Kd.C_drewN ?_ _) | (with_reducible refine Kd.C_drew ?_)))
                clear HO HS BK BR BD HB HD
                refine start_ (n := 12) (S := fun w' => w'.cell? ⟨gb26, 2, none⟩ = some (.slice Av x2.length cv) ∧ w'.cell? ⟨wr.heap.size, 1, none⟩ = some (.int .i64 y.f1) ∧ w'.cell? ⟨wr.heap.size, 2, none⟩ = some (.slice As y.f2.length cs)) (ds := [11]) #[false, false, false, false, false, false, false, false, false, false, false, false] (by kernel_rfl) rfl rfl (by rw [← hw6]; exact ⟨(blk_cell BK6.out 2).trans rfl, (blk_cell BP6.out 1).trans rfl, (blk_cell BP6.out 2).trans rfl⟩) ?_
                rw [← hw6]
                intro hHeld
                clear hw6 hw5
                refine pure_ (i := 0) (N := some 101) (v := ?_) (a' := ?_) #[true, false, false, false, false, false, false, false, false, false, false, false] rfl rfl (by kernel_rfl) (fun _ _ _ h => h) (Or.inl ⟨by rfl, ?_⟩) ?_ ?_
                rotate_left
                · intro w'
                  go_simp
                  with_reducible rfl
                rotate_left
                · simp only [Act.put, List.setIfInBounds_toArray, List.set_cons_zero, List.set_cons_succ, i64_w, i32_w]
                  rfl
                refine take_ (i := 1) (N := some 102) (v := ?_) (a' := ?_) #[true, true, false, false, false, false, false, false, false, false, false, false] rfl rfl (by kernel_rfl) (fun _ _ _ h => h) (Or.inl ⟨by rfl, ?_⟩) hHeld ?_ ?_
                rotate_left
                · rintro w' ⟨s0, s1, s2⟩
                  go_simp
                  with_reducible rfl
                rotate_left
                · simp only [Act.put, List.setIfInBounds_toArray, List.set_cons_zero, List.set_cons_succ, i64_w, i32_w]
                  rfl
                refine pure_ (i := 2) (N := some 103) (v := ?_) (a' := ?_) #[true, true, true, false, false, false, false, false, false, false, false, false] rfl rfl (by kernel_rfl) (fun _ _ _ h => h) (Or.inl ⟨by rfl, ?_⟩) ?_ ?_
                rotate_left
                · intro w'
                  go_simp
                  with_reducible rfl
                rotate_left
                · simp only [Act.put, List.setIfInBounds_toArray, List.set_cons_zero, List.set_cons_succ, i64_w, i32_w]
                  rfl
                refine take_ (i := 3) (N := some 104) (v := ?_) (a' := ?_) #[true, true, true, true, false, false, false, false, false, false, false, false] rfl rfl (by kernel_rfl) (fun _ _ _ h => h) (Or.inl ⟨by rfl, ?_⟩) hHeld ?_ ?_
                rotate_left
                · rintro w' ⟨s0, s1, s2⟩
                  go_simp
                  with_reducible rfl
                rotate_left
                · simp only [Act.put, List.setIfInBounds_toArray, List.set_cons_zero, List.set_cons_succ, i64_w, i32_w]
                  rfl
                refine pure_ (i := 4) (N := some 105) (v := ?_) (a' := ?_) #[true, true, true, true, true, false, false, false, false, false, false, false] rfl rfl (by kernel_rfl) (fun _ _ _ h => h) (Or.inl ⟨by rfl, ?_⟩) ?_ ?_
                rotate_left
                · intro w'
                  go_simp
                  with_reducible rfl
                rotate_left
                · simp only [Act.put, List.setIfInBounds_toArray, List.set_cons_zero, List.set_cons_succ, i64_w, i32_w]
                  rfl
                refine take_ (i := 5) (N := some 106) (v := ?_) (a' := ?_) #[true, true, true, true, true, true, false, false, false, false, false, false] rfl rfl (by kernel_rfl) (fun _ _ _ h => h) (Or.inl ⟨by rfl, ?_⟩) hHeld ?_ ?_
                rotate_left
                · rintro w' ⟨s0, s1, s2⟩
                  go_simp
                  with_reducible rfl
                rotate_left
                · simp only [Act.put, List.setIfInBounds_toArray, List.set_cons_zero, List.set_cons_succ, i64_w, i32_w]
                  rfl
                refine one_ (i := 6) (N := some 107) #[true, true, true, true, true, true, true, false, false, false, false, false] rfl rfl (by kernel_rfl) (by decide) (fun K hK => ?_)
                refine goes_ Try.func71 (by kernel_rfl) rfl #[.slice As y.f2.length cs] (by rfl) rfl rfl (by (try simp only [List.map_toArray, List.map_cons, List.map_nil]); first | done | rfl) ?_
                with_reducible refine (spec_l1Copy.calls k _ _ y.f2 y.f2 _ ?side1 ?side2 (HEC.out y (step_mem HIN.out HNL.out HY.out))).mono ?_
                (case side1 => exact HD6.out)
                (case side2 => exact HDC.out)
                rintro e w7 ⟨v7, rfl, ho0, hb⟩
                refine ⟨_, rfl, ?_⟩
                have HO7 := Aside0.mk (Kd.R_elder' (by (with_reducible repeat (first | apply Kd.R_alloc | apply Kd.R_drewN | apply Kd.R_drew)); exact HO6.out) (Kd.R_base ho0) hb)
                have HS7 := Aside0.mk (Kd.S_elder' (by (with_reducible repeat (first | apply Kd.S_alloc | apply Kd.S_drewN | apply Kd.S_drew)); exact HS6.out) (Kd.R_base ho0) hb)
                have HY7 := Aside0.mk (Kd.R_lower (Kd.R_new' ho0 (Kd.R_lt (by (with_reducible repeat (first | apply Kd.R_alloc | apply Kd.R_drewN | apply Kd.R_drew)); exact HO6.out))) (below_size (by repeat (first | (with_reducible first | exact HB6.out | apply below_alloc | apply pw_below_drewN | apply below_drew1) | exact HB6.out))))
                have BK7 := Aside0.mk (blk_below (by (with_reducible repeat (first | refine blk_drewN ?_ _ | refine blk_drew ?_ | refine blk_alloc ?_ _)); exact BK6.out) hb)
                have BR7 := Aside0.mk (blk_below (by (with_reducible repeat (first | refine blk_drewN ?_ _ | refine blk_drew ?_ | refine blk_alloc ?_ _)); exact BR6.out) hb)
                have BD7 := Aside0.mk (blk_below (by (with_reducible repeat (first | refine blk_drewN ?_ _ | refine blk_drew ?_ | refine blk_alloc ?_ _)); exact BD6.out) hb)
                have BP7 := Aside0.mk (blk_below (by (with_reducible repeat (first | refine blk_drewN ?_ _ | refine blk_drew ?_ | refine blk_alloc ?_ _)); exact BP6.out) hb)
                have HB7 := Aside0.mk (below_step (by repeat (first | (with_reducible first | exact HB6.out | apply below_alloc | apply pw_below_drewN | apply below_drew1) | exact HB6.out)) hb)
                clear HO6 HS6 BK6 BR6 BD6 BP6 HB6 hb ho0 HD6
                obtain ⟨Ay, cy, ey⟩ := Kd.R_slice HY7.out
                (first | subst ey | (injection ey with f1_ f2_ f3_; have f4_ := f1_.symm; have f5_ := f3_.symm; clear f1_ f2_ f3_; subst f4_; subst f5_))
                refine hK.out _ _ ⟨(blk_cell BK7.out 2).trans rfl, (blk_cell BP7.out 1).trans rfl, (blk_cell BP7.out 2).trans rfl⟩ (fun hHeld => ?_)
                clear hK K
                refine norm_ (a' := ?_) ?_ ?_
                rotate_left
                · show Act.put _ (some 107) _ = _
                  simp only [Act.put, List.setIfInBounds_toArray, List.set_cons_zero, List.set_cons_succ, i64_w, i32_w]
                  rfl
                refine pure_ (i := 7) (N := some 108) (v := ?_) (a' := ?_) #[true, true, true, true, true, true, true, true, false, false, false, false] rfl rfl (by kernel_rfl) (fun _ _ _ h => h) (Or.inl ⟨by rfl, ?_⟩) ?_ ?_
                rotate_left
                · intro w'
                  go_simp
                  with_reducible rfl
                rotate_left
                · simp only [Act.put, List.setIfInBounds_toArray, List.set_cons_zero, List.set_cons_succ, i64_w, i32_w]
                  rfl
                refine one_ (i := 8) (N := some 109) #[true, true, true, true, true, true, true, true, true, false, false, false] rfl rfl (by kernel_rfl) (by decide) (fun K hK => ?_)
                refine value_ (w1 := ?_) (v := ?_) (by rfl) rfl ?_ ?_
                rotate_left 2
                · go_simp
                  constructor
                  · rfl
                  · rfl
                refine hK.out _ _ ⟨(blk_cell (blk_alloc BK7.out _) 2).trans rfl, (blk_cell (blk_alloc BP7.out _) 1).trans rfl, (blk_cell (blk_alloc BP7.out _) 2).trans rfl⟩ (fun hHeld => ?_)
                clear hK K
                refine norm_ (a' := ?_) ?_ ?_
                rotate_left
                · show Act.put _ (some 109) _ = _
                  simp only [Act.put, List.setIfInBounds_toArray, List.set_cons_zero, List.set_cons_succ, i64_w, i32_w]
                  rfl
                refine one_ (i := 9) (N := some 110) #[true, true, true, true, true, true, true, true, true, true, false, false] rfl rfl (by kernel_rfl) (by decide) (fun K hK => ?_)
                obtain ⟨z, hz⟩ : ∃ z : List S67, z = x2 ++ [(⟨y.f1, y.f2⟩ : S67)] := ⟨_, rfl⟩
                have HZ := Aside0.mk hz
                clear hz
                refine Kd.S_append_step k67 (w0 := W) W.heap.size (by rfl) (.tmp 102) (.tmp 109) 45 67 (.agg #[(.int .i64 0), (.slice none 0 0)]) 32 rfl Try.underlying45 info67 rfl (by decide) (by decide) (.slice Av x2.length cv) x2 (⟨y.f1, y.f2⟩ : S67) [.int .i64 y.f1, .slice Ay y.f2.length cy] (fun k_ => (some k_ ≠ (.slice Ao19 r12.length co20 : Value).ownBlock ∧ k_ ≠ gb26) ∧ True) (fun k_ => some k_ = (.slice Ay y.f2.length cy : Value).ownBlock) rfl rfl ?aP (fun k_ hk_ => ((Kd.R_mono (ok' := fun k_ => ((fun k_ => (some k_ ≠ (.slice Ao19 r12.length co20 : Value).ownBlock ∧ k_ ≠ gb26) ∧ True) k_) ∧ some k_ ≠ (.slice Av x2.length cv : Value).ownBlock) (Kd.R_apart' (Kd.R_types HY7.out BK7.out (by decide)) (Kd.S_typed HS7.out) (by decide)) (fun k_ hk => ⟨⟨⟨hk.1.1.2, hk.1.2⟩, trivial⟩, hk.2⟩))).1 k_ hk_.symm) ?aF ?aO ?aB ?aS ?aL ?_
                (case aP => exact k67_mkM _ _ _ (⟨y.f1, y.f2⟩ : S67) (Kd.R_mono (Kd.R_tight rfl (Kd.R_mono (ok' := fun k_ => ((fun k_ => (some k_ ≠ (.slice Ao19 r12.length co20 : Value).ownBlock ∧ k_ ≠ gb26) ∧ True) k_) ∧ some k_ ≠ (.slice Av x2.length cv : Value).ownBlock) (Kd.R_apart' (Kd.R_types HY7.out BK7.out (by decide)) (Kd.S_typed HS7.out) (by decide)) (fun k_ hk => ⟨⟨⟨hk.1.1.2, hk.1.2⟩, trivial⟩, hk.2⟩))) (fun _ h_ => h_)))
                (case aB => exact (by repeat (first | (with_reducible first | exact HB7.out | apply below_alloc | apply pw_below_drewN | apply below_drew1) | exact HB7.out)))
                (case aF => exact (fun k_ hk => ⟨⟨Kd.fresh' (Kd.R_lt HO7.out) k_ hk, Kd.freshB BK7.out k_ hk⟩, trivial⟩))
                (case aO => exact (by (with_reducible repeat (first | apply Kd.S_alloc | apply Kd.S_drewN | apply Kd.S_drew)); exact Kd.S_mono HS7.out (fun k_ hk => ⟨hk.1, fun e_ => hk.2 e_⟩)))
                (case aS => exact (below_size (by repeat (first | (with_reducible first | exact HB7.out | apply below_alloc | apply pw_below_drewN | apply below_drew1) | exact HB7.out))))
                (case aL => exact ar19 HL4.out)
                intro v8 w8 ho hb hg hat
                rw [← HZ.out] at ho
                have HO8 := Aside0.mk (Kd.R_over' (by (with_reducible repeat (first | apply Kd.R_alloc | apply Kd.R_drewN | apply Kd.R_drew)); exact HO7.out) (Kd.S_typed (by (with_reducible repeat (first | apply Kd.S_alloc | apply Kd.S_drewN | apply Kd.S_drew)); exact HS7.out)) (by decide) hg)
                have BK8 := Aside0.mk (blk_grown (by (with_reducible repeat (first | refine blk_drewN ?_ _ | refine blk_drew ?_ | refine blk_alloc ?_ _)); exact BK7.out) hg (Kd.S_ne HS7.out BK7.out (by decide)))
                have BR8 := Aside0.mk (blk_grown (by (with_reducible repeat (first | refine blk_drewN ?_ _ | refine blk_drew ?_ | refine blk_alloc ?_ _)); exact BR7.out) hg (Kd.S_ne HS7.out BR7.out (by decide)))
                have BD8 := Aside0.mk (blk_grown (by (with_reducible repeat (first | refine blk_drewN ?_ _ | refine blk_drew ?_ | refine blk_alloc ?_ _)); exact BD7.out) hg (Kd.S_ne HS7.out BD7.out (by decide)))
                have BP8 := Aside0.mk (blk_grown (by (with_reducible repeat (first | refine blk_drewN ?_ _ | refine blk_drew ?_ | refine blk_alloc ?_ _)); exact BP7.out) hg (Kd.S_ne HS7.out BP7.out (by decide)))
                have HB8 := Aside0.mk hb
                have HS8 := Aside0.mk ho
                clear HO7 HS7 BK7 BR7 BD7 BP7 HB7 HY7 ho hb hg hat
                obtain ⟨A8, c8, e8⟩ := Kd.S_slice HS8.out
                (first | subst e8 | (injection e8 with f1_ f2_ f3_; have f4_ := f1_.symm; have f5_ := f3_.symm; clear f1_ f2_ f3_; subst f4_; subst f5_))
                refine hK.out _ _ ⟨(blk_cell BK8.out 2).trans rfl, (blk_cell BP8.out 1).trans rfl, (blk_cell BP8.out 2).trans rfl⟩ (fun hHeld => ?_)
                clear hK K
                refine norm_ (a' := ?_) ?_ ?_
                rotate_left
                · show Act.put _ (some 110) _ = _
                  simp only [Act.put, List.setIfInBounds_toArray, List.set_cons_zero, List.set_cons_succ, i64_w, i32_w]
                  rfl
                refine pure_ (i := 10) (N := some 111) (v := ?_) (a' := ?_) #[true, true, true, true, true, true, true, true, true, true, true, false] rfl rfl (by kernel_rfl) (fun _ _ _ h => h) (Or.inl ⟨by rfl, ?_⟩) ?_ ?_
                rotate_left
                · intro w'
                  go_simp
                  with_reducible rfl
                rotate_left
                · simp only [Act.put, List.setIfInBounds_toArray, List.set_cons_zero, List.set_cons_succ, i64_w, i32_w]
                  rfl
                refine last_ (i := 11) (N := none) #[true, true, true, true, true, true, true, true, true, true, true, true] rfl rfl (by kernel_rfl) (by decide) (fun K hK => ?_)
                have hs2 : w8.cell? ⟨gb26, 2, none⟩ = some (.slice Av x2.length cv) := (blk_cell BK8.out 2).trans rfl
                have hfs2 := blk_frozen BK8.out 2
                refine skip_ (w1 := ?_) (by rfl) rfl ?_ ?_
                rotate_left
                · go_simp
                  rfl
                refine hK.out _ _ ?_
                clear hK K hs2 hfs2
                refine done_ (by kernel_rfl) ?_
                try go_wp2
                go_roundg (n - i)
                case measure => exact ar7 HA.out HIN.out
                case rel =>
                  have e_ : wrap64 ((i : Int) + 1) = ((i + 1 : Nat) : Int) := ar11 HM.out HIN.out HNL.out
                  have hl_ : writeL r11 y.f1 y.f2 x2 = z := by unfold writeL; rw [HC0.out, HZ.out]; rfl
                  refine ⟨i + 1, x1, z, .slice A8 z.length c8, by first | rw [e_] | (rw [i64_w, e_]) | rfl, ⟨ar8 HIN.out⟩, ⟨HIN.out⟩, ⟨⟨?_, HX.out.2⟩⟩, ⟨?_⟩, ⟨?_⟩, ⟨?_⟩, ⟨?_⟩, ⟨?_⟩, ⟨?_⟩, ⟨?_⟩⟩
                  · rw [← hl_]
                    exact writeL_fit HX.out.1 (by rw [HX.out.2]; exact HEL.out)
                  · have h_ := HE.out
                    rw [apply_step HIN.out HNL.out HY.out] at h_
                    unfold applyOne at h_
                    rw [if_pos HK1.out] at h_
                    simp only [HC0.out, hl_] at h_
                    rw [if_pos trivial] at h_
                    exact h_
                  · (with_reducible repeat (first | apply Kd.R_alloc | apply Kd.R_drewN | apply Kd.R_drew))
                    exact Kd.R_mono (Kd.R_far (p := ⟨gb26, 2, none⟩) (Kd.R_types HO8.out BK8.out (by decide)) (fun _ hk => hk.2) _) (fun _ _ => trivial)
                  · (with_reducible repeat (first | apply Kd.S_alloc | apply Kd.S_drewN | apply Kd.S_drew))
                    exact Kd.S_mono (Kd.S_far (p := ⟨gb26, 2, none⟩) HS8.out (fun k_ hk_ => hk_.1.2) _) (fun _ h => h)
                  · (with_reducible repeat (first | refine blk_drewN ?_ _ | refine blk_drew ?_ | refine blk_alloc ?_ _))
                    exact blk_put BK8.out 2 _ rfl
                  · (with_reducible repeat (first | refine blk_drewN ?_ _ | refine blk_drew ?_ | refine blk_alloc ?_ _))
                    exact blk_far BR8.out hne _
                  · (with_reducible repeat (first | refine blk_drewN ?_ _ | refine blk_drew ?_ | refine blk_alloc ?_ _))
                    exact blk_far BD8.out hne3 _
                  · repeat (first | (with_reducible first | exact below_set HB8.out HG.out | apply below_alloc | apply pw_below_drewN | apply below_drew1) | exact below_set HB8.out HG.out)
        · have K1 : (y.f0 != 1) = true := bne_iff_ne.mpr k1
          have HK1 := Aside0.mk k1
          clear k1
          have hq : (x1, x2, (5 : Int)) = (q1, q2, q3) := by
            have h_ := HE.out
            rw [apply_step HIN.out HNL.out HY.out] at h_
            unfold applyOne at h_
            rw [if_neg HK1.out, if_neg HK2.out] at h_
            exact h_
          have HQ := Aside0.mk hq
          clear hq
          have hA0 : ∀ o, (wr.alloc o).cell? ⟨gb26, 0, none⟩ = some (.int .i64 r11) := fun o => (blk_cell (blk_alloc BK.out o) 0).trans rfl; have hB0 : ∀ o, (wr.alloc o).cell? ⟨gb4, 0, none⟩ = some (.int .i64 0) := fun o => (blk_cell (blk_alloc BR.out o) 0).trans rfl; have hC0 : ∀ o, (wr.alloc o).frozen? ⟨gb4, 0, none⟩ = false := fun o => blk_frozen (blk_alloc BR.out o) 0; have hE0 : ∀ o, (wr.alloc o).cell? ⟨gb1, 0, none⟩ = some (.int .i64 a0_0) := fun o => (blk_cell (blk_alloc BD.out o) 0).trans rfl; have hA1 : ∀ o, (wr.alloc o).cell? ⟨gb26, 1, none⟩ = some ((.slice Ao19 r12.length co20)) := fun o => (blk_cell (blk_alloc BK.out o) 1).trans rfl; have hB1 : ∀ o, (wr.alloc o).cell? ⟨gb4, 1, none⟩ = some (.slice none 0 0) := fun o => (blk_cell (blk_alloc BR.out o) 1).trans rfl; have hC1 : ∀ o, (wr.alloc o).frozen? ⟨gb4, 1, none⟩ = false := fun o => blk_frozen (blk_alloc BR.out o) 1; have hE1 : ∀ o, (wr.alloc o).cell? ⟨gb1, 1, none⟩ = some (.slice A0_1 l0_1.length c0_1) := fun o => (blk_cell (blk_alloc BD.out o) 1).trans rfl; have hA2 : ∀ o, (wr.alloc o).cell? ⟨gb26, 2, none⟩ = some (.slice Av x2.length cv) := fun o => (blk_cell (blk_alloc BK.out o) 2).trans rfl; have hB2 : ∀ o, (wr.alloc o).cell? ⟨gb4, 2, none⟩ = some (.slice none 0 0) := fun o => (blk_cell (blk_alloc BR.out o) 2).trans rfl; have hC2 : ∀ o, (wr.alloc o).frozen? ⟨gb4, 2, none⟩ = false := fun o => blk_frozen (blk_alloc BR.out o) 2; have hE2 : ∀ o, (wr.alloc o).cell? ⟨gb1, 2, none⟩ = some (.slice A0_2 l0_2.length c0_2) := fun o => (blk_cell (blk_alloc BD.out o) 2).trans rfl
          go_wp2
          refine Law.post_world (fun wE hwE => ?_)
          have BE : wE.heap[gb4]? = some (.cells #[.int .i64 r11, (.slice Ao19 r12.length co20), .slice Av x2.length cv] 47 (0, 0)) := by
            rw [hwE]
            (with_reducible repeat (first | refine blk_drewN ?_ _ | refine blk_drew ?_ | refine blk_alloc ?_ _))
            refine blk_put (cs := #[.int .i64 r11, (.slice Ao19 r12.length co20), .slice none 0 0]) ?_ 2 _ rfl
            (with_reducible repeat (first | refine blk_drewN ?_ _ | refine blk_drew ?_ | refine blk_alloc ?_ _))
            refine blk_put (cs := #[.int .i64 r11, .slice none 0 0, .slice none 0 0]) ?_ 1 _ rfl
            (with_reducible repeat (first | refine blk_drewN ?_ _ | refine blk_drew ?_ | refine blk_alloc ?_ _))
            refine blk_put (cs := #[.int .i64 0, .slice none 0 0, .slice none 0 0]) ?_ 0 _ rfl
            (with_reducible repeat (first | refine blk_drewN ?_ _ | refine blk_drew ?_ | refine blk_alloc ?_ _))
            exact BR.out
          have HOE : Kd.R (Kd.int .u8) 5 wE W.heap.size (fun _ => True) (.slice Ao19 r12.length co20) x1 := by rw [hwE]; (with_reducible repeat (first | apply Kd.R_alloc | apply Kd.R_drewN | apply Kd.R_drew)); exact Kd.R_mono (Kd.R_far (p := ⟨gb4, 2, none⟩) (Kd.R_far (p := ⟨gb4, 1, none⟩) (Kd.R_far (p := ⟨gb4, 0, none⟩) (Kd.R_types (Law.rg HO.out) (by (with_reducible repeat (first | refine blk_drewN ?_ _ | refine blk_drew ?_ | refine blk_alloc ?_ _)); exact BR.out) (by decide)) (fun _ hk => hk.2) _) (fun _ hk => hk.2) _) (fun _ hk => hk.2) _) (fun _ _ => trivial)
          have HSE : Kd.S k67 67 wE W.heap.size (fun k_ => some k_ ≠ ((.slice Ao19 r12.length co20) : Value).ownBlock) (.slice Av x2.length cv) x2 := by rw [hwE]; (with_reducible repeat (first | apply Kd.S_alloc | apply Kd.S_drewN | apply Kd.S_drew)); exact Kd.S_mono (Kd.S_far (p := ⟨gb4, 2, none⟩) (Kd.S_far (p := ⟨gb4, 1, none⟩) (Kd.S_far (p := ⟨gb4, 0, none⟩) (Kd.S_types (Law.sg HS.out) (by (with_reducible repeat (first | refine blk_drewN ?_ _ | refine blk_drew ?_ | refine blk_alloc ?_ _)); exact BR.out) (by decide)) (fun _ hk => hk.2) _) (fun _ hk => hk.2) _) (fun _ hk => hk.2) _) (fun _ hk => hk.1.1.1)
          have HBE : Below W.heap.size W wE := by rw [hwE]; repeat (first | (with_reducible first | exact HB.out | apply below_alloc | apply pw_below_drewN | apply below_drew1 | refine below_set ?_ HGR.out) | exact HB.out)
          have BEA := Aside0.mk BE
          clear hwE BE
          have hz0 : wE.cell? ⟨gb4, 0, none⟩ = some (.int .i64 r11) := (blk_cell BEA.out 0).trans rfl; have hzf0 := blk_frozen BEA.out 0; have hz1 : wE.cell? ⟨gb4, 1, none⟩ = some ((.slice Ao19 r12.length co20)) := (blk_cell BEA.out 1).trans rfl; have hzf1 := blk_frozen BEA.out 1; have hz2 : wE.cell? ⟨gb4, 2, none⟩ = some (.slice Av x2.length cv) := (blk_cell BEA.out 2).trans rfl; have hzf2 := blk_frozen BEA.out 2
          refine bodyPost_ret (v := .tuple #[.agg #[.int .i64 r11, (.slice Ao19 r12.length co20), .slice Av x2.length cv], .int .i64 5]) ?_ rfl ?_
          · simp [results, Try.f55, go_sem, *]
          · have hq := HQ.out
            injection hq with hqa hqb
            injection hqb with hqb hqc
            rw [← hqa, ← hqb, ← hqc]
            exact ⟨_, _, rfl, HOE, HSE, HBE⟩
    · have hq : (x1, x2, (0 : Int)) = (q1, q2, q3) := by
        have h_ := HE.out
        rw [List.drop_of_length_le (by rw [List.length_take]; exact ar17 hn)] at h_
        exact h_
      have HQ := Aside0.mk hq
      have hi2 : i = n := ar10 HL.out hn
      by_cases hil : (i : Int) < (l1.length : Int)
      · have D2 : decide ((i : Int) < (l1.length : Int)) = true := decide_eq_true hil
        have D3 : decide (i < l1.length) = true := decide_eq_true (Int.ofNat_lt.mp hil)
        have D4 : decide ((i : Int) < a2) = false := decide_eq_false (ar1n HEN.out hil hn)
        clear hq hn hi2 hil
        go_wp2
        refine Law.post_world (fun wE hwE => ?_)
        have BE : wE.heap[gb4]? = some (.cells #[.int .i64 r11, (.slice Ao19 r12.length co20), .slice Av x2.length cv] 47 (0, 0)) := by
          rw [hwE]
          (with_reducible repeat (first | refine blk_drewN ?_ _ | refine blk_drew ?_ | refine blk_alloc ?_ _))
          refine blk_put (cs := #[.int .i64 r11, (.slice Ao19 r12.length co20), .slice none 0 0]) ?_ 2 _ rfl
          (with_reducible repeat (first | refine blk_drewN ?_ _ | refine blk_drew ?_ | refine blk_alloc ?_ _))
          refine blk_put (cs := #[.int .i64 r11, .slice none 0 0, .slice none 0 0]) ?_ 1 _ rfl
          (with_reducible repeat (first | refine blk_drewN ?_ _ | refine blk_drew ?_ | refine blk_alloc ?_ _))
          refine blk_put (cs := #[.int .i64 0, .slice none 0 0, .slice none 0 0]) ?_ 0 _ rfl
          (with_reducible repeat (first | refine blk_drewN ?_ _ | refine blk_drew ?_ | refine blk_alloc ?_ _))
          exact BR.out
        have HOE : Kd.R (Kd.int .u8) 5 wE W.heap.size (fun _ => True) (.slice Ao19 r12.length co20) x1 := by rw [hwE]; (with_reducible repeat (first | apply Kd.R_alloc | apply Kd.R_drewN | apply Kd.R_drew)); exact Kd.R_mono (Kd.R_far (p := ⟨gb4, 2, none⟩) (Kd.R_far (p := ⟨gb4, 1, none⟩) (Kd.R_far (p := ⟨gb4, 0, none⟩) (Kd.R_types (Law.rg HO.out) (by (with_reducible repeat (first | refine blk_drewN ?_ _ | refine blk_drew ?_ | refine blk_alloc ?_ _)); exact BR.out) (by decide)) (fun _ hk => hk.2) _) (fun _ hk => hk.2) _) (fun _ hk => hk.2) _) (fun _ _ => trivial)
        have HSE : Kd.S k67 67 wE W.heap.size (fun k_ => some k_ ≠ ((.slice Ao19 r12.length co20) : Value).ownBlock) (.slice Av x2.length cv) x2 := by rw [hwE]; (with_reducible repeat (first | apply Kd.S_alloc | apply Kd.S_drewN | apply Kd.S_drew)); exact Kd.S_mono (Kd.S_far (p := ⟨gb4, 2, none⟩) (Kd.S_far (p := ⟨gb4, 1, none⟩) (Kd.S_far (p := ⟨gb4, 0, none⟩) (Kd.S_types (Law.sg HS.out) (by (with_reducible repeat (first | refine blk_drewN ?_ _ | refine blk_drew ?_ | refine blk_alloc ?_ _)); exact BR.out) (by decide)) (fun _ hk => hk.2) _) (fun _ hk => hk.2) _) (fun _ hk => hk.2) _) (fun _ hk => hk.1.1.1)
        have HBE : Below W.heap.size W wE := by rw [hwE]; repeat (first | (with_reducible first | exact HB.out | apply below_alloc | apply pw_below_drewN | apply below_drew1 | refine below_set ?_ HGR.out) | exact HB.out)
        have BEA := Aside0.mk BE
        clear hwE BE
        have hz0 : wE.cell? ⟨gb4, 0, none⟩ = some (.int .i64 r11) := (blk_cell BEA.out 0).trans rfl; have hzf0 := blk_frozen BEA.out 0; have hz1 : wE.cell? ⟨gb4, 1, none⟩ = some ((.slice Ao19 r12.length co20)) := (blk_cell BEA.out 1).trans rfl; have hzf1 := blk_frozen BEA.out 1; have hz2 : wE.cell? ⟨gb4, 2, none⟩ = some (.slice Av x2.length cv) := (blk_cell BEA.out 2).trans rfl; have hzf2 := blk_frozen BEA.out 2
        refine bodyPost_ret (v := .tuple #[.agg #[.int .i64 r11, (.slice Ao19 r12.length co20), .slice Av x2.length cv], .int .i64 0]) ?_ rfl ?_
        · simp [results, Try.f55, go_sem, *]
        · have hq := HQ.out
          injection hq with hqa hqb
          injection hqb with hqb hqc
          rw [← hqa, ← hqb, ← hqc]
          exact ⟨_, _, rfl, HOE, HSE, HBE⟩
      · have D2 : decide ((i : Int) < (l1.length : Int)) = false := decide_eq_false hil
        have D3 : decide (i < l1.length) = false := decide_eq_false (fun h_ => hil (Int.ofNat_lt.mpr h_))
        clear hq hn hi2 hil
        go_wp2
        refine Law.post_world (fun wE hwE => ?_)
        have BE : wE.heap[gb4]? = some (.cells #[.int .i64 r11, (.slice Ao19 r12.length co20), .slice Av x2.length cv] 47 (0, 0)) := by
          rw [hwE]
          (with_reducible repeat (first | refine blk_drewN ?_ _ | refine blk_drew ?_ | refine blk_alloc ?_ _))
          refine blk_put (cs := #[.int .i64 r11, (.slice Ao19 r12.length co20), .slice none 0 0]) ?_ 2 _ rfl
          (with_reducible repeat (first | refine blk_drewN ?_ _ | refine blk_drew ?_ | refine blk_alloc ?_ _))
          refine blk_put (cs := #[.int .i64 r11, .slice none 0 0, .slice none 0 0]) ?_ 1 _ rfl
          (with_reducible repeat (first | refine blk_drewN ?_ _ | refine blk_drew ?_ | refine blk_alloc ?_ _))
          refine blk_put (cs := #[.int .i64 0, .slice none 0 0, .slice none 0 0]) ?_ 0 _ rfl
          (with_reducible repeat (first | refine blk_drewN ?_ _ | refine blk_drew ?_ | refine blk_alloc ?_ _))
          exact BR.out
        have HOE : Kd.R (Kd.int .u8) 5 wE W.heap.size (fun _ => True) (.slice Ao19 r12.length co20) x1 := by rw [hwE]; (with_reducible repeat (first | apply Kd.R_alloc | apply Kd.R_drewN | apply Kd.R_drew)); exact Kd.R_mono (Kd.R_far (p := ⟨gb4, 2, none⟩) (Kd.R_far (p := ⟨gb4, 1, none⟩) (Kd.R_far (p := ⟨gb4, 0, none⟩) (Kd.R_types (Law.rg HO.out) (by (with_reducible repeat (first | refine blk_drewN ?_ _ | refine blk_drew ?_ | refine blk_alloc ?_ _)); exact BR.out) (by decide)) (fun _ hk => hk.2) _) (fun _ hk => hk.2) _) (fun _ hk => hk.2) _) (fun _ _ => trivial)
        have HSE : Kd.S k67 67 wE W.heap.size (fun k_ => some k_ ≠ ((.slice Ao19 r12.length co20) : Value).ownBlock) (.slice Av x2.length cv) x2 := by rw [hwE]; (with_reducible repeat (first | apply Kd.S_alloc | apply Kd.S_drewN | apply Kd.S_drew)); exact Kd.S_mono (Kd.S_far (p := ⟨gb4, 2, none⟩) (Kd.S_far (p := ⟨gb4, 1, none⟩) (Kd.S_far (p := ⟨gb4, 0, none⟩) (Kd.S_types (Law.sg HS.out) (by (with_reducible repeat (first | refine blk_drewN ?_ _ | refine blk_drew ?_ | refine blk_alloc ?_ _)); exact BR.out) (by decide)) (fun _ hk => hk.2) _) (fun _ hk => hk.2) _) (fun _ hk => hk.2) _) (fun _ hk => hk.1.1.1)
        have HBE : Below W.heap.size W wE := by rw [hwE]; repeat (first | (with_reducible first | exact HB.out | apply below_alloc | apply pw_below_drewN | apply below_drew1 | refine below_set ?_ HGR.out) | exact HB.out)
        have BEA := Aside0.mk BE
        clear hwE BE
        have hz0 : wE.cell? ⟨gb4, 0, none⟩ = some (.int .i64 r11) := (blk_cell BEA.out 0).trans rfl; have hzf0 := blk_frozen BEA.out 0; have hz1 : wE.cell? ⟨gb4, 1, none⟩ = some ((.slice Ao19 r12.length co20)) := (blk_cell BEA.out 1).trans rfl; have hzf1 := blk_frozen BEA.out 1; have hz2 : wE.cell? ⟨gb4, 2, none⟩ = some (.slice Av x2.length cv) := (blk_cell BEA.out 2).trans rfl; have hzf2 := blk_frozen BEA.out 2
        refine bodyPost_ret (v := .tuple #[.agg #[.int .i64 r11, (.slice Ao19 r12.length co20), .slice Av x2.length cv], .int .i64 0]) ?_ rfl ?_
        · simp [results, Try.f55, go_sem, *]
        · have hq := HQ.out
          injection hq with hqa hqb
          injection hqb with hqb hqc
          rw [← hqa, ← hqb, ← hqc]
          exact ⟨_, _, rfl, HOE, HSE, HBE⟩

def spec_DevApply.f (k : Nat) (a0_0 : Int) (l0_1 : List Int) (l0_2 : List (S67)) (l1 : List (S71)) (a2 : Int) : Option (Int × List Int × (List (S67)) × Int) := (spec_l1Valid.f k a0_0 l0_1 l0_2).bind fun t => if t = true then ((spec_l1CopyDevice.f k a0_0 l0_1 l0_2).bind fun c => if (l1.length : Int) > 4096 then some (c.1, c.2.1, c.2.2, 4) else if fitB c.2.1 c.2.2 ∧ (c.2.1.length : Int) = c.1 * 128 ∧ c.1 = a0_0 ∧ (∀ s ∈ l1.take (min (max a2 0) (l1.length : Int)).toNat, spec_l1Copy.f k s.f2 = some s.f2) then some (c.1, applyF c.1 c.2.1 c.2.2 (l1.take (min (max a2 0) (l1.length : Int)).toNat)) else none) else some (0, [], [], 1)
theorem spec_DevApply.calls (k : Nat) (a0_0 : Int) (A0_1 : Option Addr) (c0_1 : Nat) (l0_1 : List Int) (A0_2 : Option Addr) (c0_2 : Nat) (l0_2 : List (S67)) (A1 : Option Addr) (c1 : Nat) (l1 : List (S71)) (a2 : Int) (r1 : Int) (r2 : List Int) (r3 : List (S67)) (r4 : Int) (w : World) (hr0_1 : Kd.C (Kd.int .u8) w A0_1 l0_1.length l0_1) (hc0_1 : l0_1.length ≤ c0_1) (hr0_2 : Kd.C k67 w A0_2 l0_2.length l0_2) (hc0_2 : l0_2.length ≤ c0_2) (hr1 : Kd.C k71 w A1 l1.length l1) (hc1 : l1.length ≤ c1) (h : spec_DevApply.f k a0_0 l0_1 l0_2 l1 a2 = some (r1, r2, r3, r4)) :
    Calls Try.prog 55 #[.agg #[.int .i64 a0_0, .slice A0_1 l0_1.length c0_1, .slice A0_2 l0_2.length c0_2], .slice A1 l1.length c1, .int .i64 a2] w fun e w' => ∃ v1_ v2_ : Value, e = .returned (.tuple #[.agg #[.int .i64 r1, v1_, v2_], .int .i64 r4]) ∧ Kd.R (Kd.int .u8) 5 w' w.heap.size (fun _ => True) v1_ r2 ∧ Kd.S k67 67 w' w.heap.size (fun k_ => some k_ ≠ (v1_ : Value).ownBlock) v2_ r3 ∧ Below w.heap.size w w' := by
  obtain ⟨t, h1, h⟩ := Option.bind_eq_some_iff.mp h
  cases t with
  | false =>
    rw [if_neg (by simp)] at h
    injection h with h
    obtain ⟨rfl, rfl, rfl, rfl⟩ : 0 = r1 ∧ [] = r2 ∧ [] = r3 ∧ 1 = r4 := by simpa using h
    exact (spec_DevApply.walk0 a0_0 A0_1 c0_1 l0_1 A0_2 c0_2 l0_2 A1 c1 l1 a2 w hr0_1 hc0_1 hr0_2 hc0_2 hr1 hc1 k h1).mono fun e w' hp => ⟨_, _, hp.1, Kd.R_nil _ _ _ _ _, Kd.S_nil _ _ _ _ _, hp.2⟩
  | true =>
    rw [if_pos rfl] at h
    obtain ⟨⟨d1, d2, d3⟩, h2, h⟩ := Option.bind_eq_some_iff.mp h
    by_cases hT : (l1.length : Int) > 4096
    · rw [if_pos hT] at h
      injection h with h
      obtain ⟨rfl, rfl, rfl, rfl⟩ : d1 = r1 ∧ d2 = r2 ∧ d3 = r3 ∧ 4 = r4 := by simpa using h
      exact spec_DevApply.walk1 a0_0 A0_1 c0_1 l0_1 A0_2 c0_2 l0_2 A1 c1 l1 a2 w hr0_1 hc0_1 hr0_2 hc0_2 hr1 hc1 k d1 d2 d3 h1 h2 hT
    · rw [if_neg hT] at h
      by_cases hf : fitB d2 d3 ∧ (d2.length : Int) = d1 * 128 ∧ d1 = a0_0 ∧ (∀ s ∈ l1.take (min (max a2 0) (l1.length : Int)).toNat, spec_l1Copy.f k s.f2 = some s.f2)
      · rw [if_pos hf] at h
        injection h with h
        injection h with ha hb
        subst ha
        exact spec_DevApply.walk2 a0_0 A0_1 c0_1 l0_1 A0_2 c0_2 l0_2 A1 c1 l1 a2 w hr0_1 hc0_1 hr0_2 hc0_2 hr1 hc1 k d1 d2 d3 h1 h2 hT hf.1 (min (max a2 0) (l1.length : Int)).toNat (by omega) r2 r3 r4 hb hf.2.1 hf.2.2.1 hf.2.2.2
      · rw [if_neg hf] at h
        cases h

end Go.Proofs.Ytbimmmmjdimebaa.PFnExactDevApply
