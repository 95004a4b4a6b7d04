/- The program's iterator over free blocks (impl.freeBlocks): every round is handed the next free block. Conditions: the two lists lie in memory, the second is no shorter than the first. -/
import Derived.RangeFuncNested
import Derived.RangeFuncBound
import Derived.RangeFuncCalls
import Derived.RangeFuncLeaves
import Derived.RangeFuncBox
import Derived.Shelf.Abstract
import Derived.Shelf.RegionOpen
import Derived.WalkKit
import Derived.OwnWalkIn
import Derived.TacticsInMore
import Derived.LoopNIn
import Derived.LoopIn
import Derived.Lib.Hide
import Derived.Test.YtbimmmmjdimebaaProg
import Derived.Test.YtbimmmmjdimebaaWWords
import Derived.Test.YtbimmmmjdimebaaWMore
namespace Go.Proofs.Ytbimmmmjdimebaa.Iter
open Go.RowKit Go.Shelf Go.Proofs.YtbimmmmjdimebaaW.PrintWords Go.Proofs.YtbimmmmjdimebaaW.PrintMore
attribute [local go_sem] Oper.semAt_some
set_option linter.unusedVariables false

/-- Is block i free? -/
def freeAt (a b : List Int) (i : Nat) : Bool := decide (rd a (i : Int) = 0) && decide (rd b (i : Int) = 0)
/-- The free blocks from 2 on and below n. -/
def freesTo (a b : List Int) (n : Nat) : List Int := (((List.range n).filter fun i => decide (2 ≤ i) && freeAt a b i)).map fun i : Nat => (i : Int)
def frees (a b : List Int) : List Int := freesTo a b a.length
theorem freesTo_succ_yes (a b : List Int) (n : Nat) (h2 : 2 ≤ n) (h : freeAt a b n = true) : freesTo a b (n + 1) = freesTo a b n ++ [(n : Int)] := by
  simp [freesTo, List.range_succ, List.filter_append, h2, h]
theorem freesTo_succ_no (a b : List Int) (n : Nat) (h : freeAt a b n = false) : freesTo a b (n + 1) = freesTo a b n := by
  simp [freesTo, List.range_succ, List.filter_append, h]
theorem freesTo_two (a b : List Int) : freesTo a b 2 = [] := by
  simp [freesTo, List.range_succ]
theorem freesTo_length (a b : List Int) (n : Nat) : (freesTo a b n).length ≤ n := by
  unfold freesTo
  rw [List.length_map]
  have := List.length_filter_le (fun i => decide (2 ≤ i) && freeAt a b i) (List.range n)
  simpa using this
theorem freesTo_prefix (a b : List Int) (n m : Nat) (h : n ≤ m) : freesTo a b n <+: freesTo a b m := by
  induction m with
  | zero => obtain rfl : n = 0 := by omega
            exact List.prefix_refl _
  | succ m ih =>
    by_cases e : n = m + 1
    · rw [e]; exact List.prefix_refl _
    · have := ih (by omega)
      refine List.IsPrefix.trans this ?_
      simp only [freesTo, List.range_succ, List.filter_append, List.map_append]
      exact List.prefix_append _ _

/-- What a round is handed: a number that is an index. -/
abbrev Ix (l : List Int) := { x : Int // 0 ≤ x ∧ x < (l.length : Int) }
def vals {l : List Int} (ys : List (Ix l)) : List Int := ys.map fun y => y.1
theorem vals_append {l : List Int} (ys : List (Ix l)) (x : Ix l) : vals (ys ++ [x]) = vals ys ++ [x.1] := by simp [vals]
theorem vals_length {l : List Int} (ys : List (Ix l)) : (vals ys).length = ys.length := by simp [vals]

/-- What a round that goes on leaves as it was: what lay below n₀, and the two boxes. -/
def Keep (n₀ B0 B1 : Nat) (W W' : World) : Prop := W.heap.size ≤ W'.heap.size ∧ ∀ k, (k < n₀ ∨ k = B0 ∨ k = B1) → k < W.heap.size → W'.heap[k]? = W.heap[k]?
theorem Keep.refl (n₀ B0 B1 : Nat) (W : World) : Keep n₀ B0 B1 W W := ⟨Nat.le_refl _, fun _ _ _ => rfl⟩
theorem Keep.trans {n₀ B0 B1 : Nat} {W W1 W2 : World} (h : Keep n₀ B0 B1 W W1) (h' : Keep n₀ B0 B1 W1 W2) : Keep n₀ B0 B1 W W2 :=
  ⟨Nat.le_trans h.1 h'.1, fun k hk hl => (h'.2 k hk (Nat.lt_of_lt_of_le hl h.1)).trans (h.2 k hk hl)⟩
theorem Keep.cell {n₀ B0 B1 : Nat} {W W' : World} (h : Keep n₀ B0 B1 W W') {p : Addr} {v : Value} (hp : p.block < n₀ ∨ p.block = B0 ∨ p.block = B1) (hc : W.cell? p = some v) : W'.cell? p = some v := by
  have := h.2 p.block hp (World.block_lt_of_cell? W p hc)
  simpa [World.cell?, this] using hc

theorem add_block (a : Addr) (n : Nat) : (a.add n).block = a.block := by unfold Addr.add; split <;> rfl

set_option maxRecDepth 100000 in
set_option maxHeartbeats 2000000 in
/-- The closure: for every loop body that keeps what it reads. -/
theorem free1_in (F : Fence) (n : Nat) (hf : F.fn 108) (hro : F.round = none) (hn : 1 ≤ n) (l B0 B1 n₀ : Nat) (A0 A1 : Option Addr) (c0 c1 : Nat) (l0 l1 : List Int) (hlen : l0.length ≤ l1.length) (hsm : l0.length ≤ 1048576)
    (hA0 : ∀ ad, A0 = some ad → 0 < l0.length → ad.block < n₀) (hA1 : ∀ ad, A1 = some ad → 0 < l1.length → ad.block < n₀) (J Jx : List (Ix l0) → World → Prop)
    (hY : ∀ pre x W, J pre W → pre.length < l0.length → YieldAt F (n - 1) Try.prog l #[.int .i64 x.1] W fun e W' =>
      (e = .returned (.bool true) ∧ J (pre ++ [x]) W' ∧ Keep n₀ B0 B1 W W') ∨ (e = .returned (.bool false) ∧ Jx (pre ++ [x]) W'))
    (W : World) (hB0 : W.cell? ⟨B0, 0, none⟩ = some (.slice A0 l0.length c0)) (hB1 : W.cell? ⟨B1, 0, none⟩ = some (.slice A1 l1.length c1))
    (hr0 : Kd.C (Kd.int .i64) W A0 l0.length l0) (hr1 : Kd.C (Kd.int .i64) W A1 l1.length l1) (h0 : J [] W) :
    CallsIn F n Try.prog 108 #[.func (.yield l) #[] #[], .pointer (some ⟨B0, 0, none⟩), .pointer (some ⟨B1, 0, none⟩)] W fun e W' => (∃ v, e = .returned v) ∧
      ((∃ ys, vals ys = frees l0 l1 ∧ J ys W') ∨ (∃ pre, (vals pre <+: frees l0 l1 ∧ pre ≠ []) ∧ Jx pre W')) := by
  refine callsIn_of_wp Try.func108 rfl hf ?_ hro
  simp only [Try.ntmps108, List.size_toArray, List.length_cons, List.length_nil, Nat.reduceAdd, Nat.reduceSub, Array.replicate_succ, Array.replicate_zero, List.push_toArray, List.append_toArray, List.nil_append, List.cons_append]
  gi_wp2
  gi_loopw [4] (fun i wr => ∃ k : Nat, 2 ≤ k ∧ i = .int .i64 k ∧ (k ≤ l0.length ∨ k = 2) ∧ (∃ ys, vals ys = freesTo l0 l1 k ∧ J ys wr) ∧ Keep n₀ B0 B1 W wr)
    (fun i _ => l0.length - (intOf i).toNat)
  case atStart => exact ⟨2, Nat.le_refl _, rfl,   .inr rfl, ⟨[], by rw [freesTo_two]; rfl, h0⟩, Keep.refl _ _ _ _⟩
  case round =>
    obtain ⟨k, hk2, rfl, hk, ⟨ys, hys0, hJs⟩, hkp⟩ := hrel
    have hys := Lib.hid hys0
    have hyl : ys.length ≤ k := by have := freesTo_length l0 l1 k; rw [← hys0, vals_length] at this; exact this
    clear hys0
    have hb0 := hkp.cell (p := ⟨B0, 0, none⟩) (.inr (.inl rfl)) hB0
    have hb1 := hkp.cell (p := ⟨B1, 0, none⟩) (.inr (.inr rfl)) hB1
    clear hB0 hB1
    by_cases hlt : k < l0.length
    · have hd : decide ((k : Int) < (l0.length : Int)) = true := by simp; omega
      obtain ⟨ad0, e0, x0⟩ := Kd.at_int hr0 (k : Int) (by omega) (by omega)
      obtain ⟨ad1, e1, x1⟩ := Kd.at_int hr1 (k : Int) (by omega) (by omega)
      cases e0
      cases e1
      rw [Int.toNat_natCast] at x0 x1
      have hx0 := hkp.cell (.inl (by rw [add_block]; exact hA0 ad0 rfl (by omega))) x0
      have hx1 := hkp.cell (.inl (by rw [add_block]; exact hA1 ad1 rfl (by omega))) x1
      clear x0 x1
      by_cases z0 : rd l0 (k : Int) = 0
      · have z0b : (rd l0 (k : Int) == 0) = true := beq_iff_eq.2 z0
        by_cases z1 : rd l1 (k : Int) = 0
        · have z1b : (rd l1 (k : Int) == 0) = true := beq_iff_eq.2 z1
          have hfree : freeAt l0 l1 k = true := by simp [freeAt, z0, z1]
          have hs := freesTo_succ_yes l0 l1 k hk2 hfree
          obtain ⟨fn, tmps, assign, body, hy, hR⟩ := hY ys ⟨(k : Int), by omega, by omega⟩ wr hJs (by omega)
          dsimp only at hy
          have hs' := Lib.hid hs
          have hx := Lib.hid z0
          have hx' := Lib.hid z1
          clear hs z0 z1
          gi_wp2
          refine hR.mono ?_
          rintro e W3 (⟨rfl, hJ3, hk3⟩ | ⟨rfl, hJx3⟩)
          · gi_wp2
            go_roundw
            case rel => exact ⟨k + 1, by omega, by simp, .inl (by omega), ⟨_, by rw [hs'.out, ← hys.out]; exact vals_append _ _, hJ3⟩, hkp.trans hk3⟩
            case measure => simp [intOf]; omega
          · gi_wp2
            refine bodyPost_ret (results_none rfl _ _ _) rfl ?_
            exact ⟨⟨_, rfl⟩, .inr ⟨_, ⟨by rw [vals_append, hys.out, ← hs'.out]; exact freesTo_prefix _ _ _ _ (by omega), by simp⟩, hJx3⟩⟩
        · have z1b : (rd l1 (k : Int) == 0) = false := beq_eq_false_iff_ne.2 z1
          have hs' := Lib.hid (freesTo_succ_no l0 l1 k (by simp [freeAt, z1]))
          have hx := Lib.hid z0
          clear z0 z1
          gi_wp2
          refine ⟨fun _ h => (by cases h), ?_⟩
          gi_wp2
          go_roundw
          case rel => exact ⟨k + 1, by omega, by simp, .inl (by omega), ⟨ys, by rw [hs'.out]; exact hys.out, hJs⟩, hkp⟩
          case measure => simp [intOf]; omega
      · have z0b : (rd l0 (k : Int) == 0) = false := beq_eq_false_iff_ne.2 z0
        have hs' := Lib.hid (freesTo_succ_no l0 l1 k (by simp [freeAt, z0]))
        clear z0
        gi_wp2
        refine ⟨fun _ h => (by cases h), ?_⟩
        gi_wp2
        go_roundw
        case rel => exact ⟨k + 1, by omega, by simp, .inl (by omega), ⟨ys, by rw [hs'.out]; exact hys.out, hJs⟩, hkp⟩
        case measure => simp [intOf]; omega
    · have hd : decide ((k : Int) < (l0.length : Int)) = false := by simp; omega
      have hfr : frees l0 l1 = freesTo l0 l1 k := by
        rcases hk with hk | rfl
        · obtain rfl : k = l0.length := by omega
          rfl
        · rw [freesTo_two]
          unfold frees
          have h2 := freesTo_prefix l0 l1 l0.length 2 (by omega)
          rw [freesTo_two] at h2
          exact List.prefix_nil.1 h2
      have hfr' := Lib.hid hfr
      clear hfr hk
      gi_wp2
      go_end0
      exact ⟨⟨_, rfl⟩, .inl ⟨ys, by rw [hys.out]; exact hfr'.out.symm, hJs⟩⟩

/-- What the function hands back: a closure over two boxes. -/
theorem free_in (F : Fence) (n : Nat) (hf : F.fn 95) (hro : F.round = none) (v0 v1 : Value) (A0 A1 : Option Addr) (a0 a1 c0 c1 : Nat) (w : World) :
    CallsIn F n Try.prog 95 #[.slice A0 a0 c0, .slice A1 a1 c1] w fun e w' => e = .returned (.func (.func 108) #[] #[.pointer (some ⟨w.heap.size, 0, none⟩), .pointer (some ⟨w.heap.size + 1, 0, none⟩)]) ∧
      w' = (w.alloc (.cells #[.slice A0 a0 c0] 24)).alloc (.cells #[.slice A1 a1 c1] 24) := by
  refine callsIn_of_wp Try.func95 rfl hf ?_ hro
  simp only [Try.ntmps95, List.size_toArray, List.length_cons, List.length_nil, Nat.reduceAdd, Nat.reduceSub, Array.replicate_succ, Array.replicate_zero, List.push_toArray, List.append_toArray, List.nil_append, List.cons_append]
  gi_wp2
  go_ret
  exact ⟨rfl, rfl⟩

/-- The contract of what it hands back. -/
theorem free_stops (F : Fence) (n : Nat) (hf : F.fn 108) (hro : F.round = none) (hn : 1 ≤ n) (B0 B1 n₀ : Nat) (A0 A1 : Option Addr) (c0 c1 : Nat) (l0 l1 : List Int) (hlen : l0.length ≤ l1.length) (hsm : l0.length ≤ 1048576)
    (w : World) (hA0 : ∀ ad, A0 = some ad → 0 < l0.length → ad.block < n₀) (hA1 : ∀ ad, A1 = some ad → 0 < l1.length → ad.block < n₀) (hB0 : w.cell? ⟨B0, 0, none⟩ = some (.slice A0 l0.length c0)) (hB1 : w.cell? ⟨B1, 0, none⟩ = some (.slice A1 l1.length c1))
    (hr0 : Kd.C (Kd.int .i64) w A0 l0.length l0) (hr1 : Kd.C (Kd.int .i64) w A1 l1.length l1) :
    SeqStopsK F n Try.prog 108 #[.pointer (some ⟨B0, 0, none⟩), .pointer (some ⟨B1, 0, none⟩)] (fun x : Ix l0 => #[Value.int .i64 x.1]) (Keep n₀ B0 B1) (fun ys => vals ys = frees l0 l1) (fun pre => vals pre <+: frees l0 l1 ∧ pre ≠ []) l0.length w := fun l J Jx W hW _ _ hY h0 =>
  free1_in F n hf hro hn l B0 B1 n₀ A0 A1 c0 c1 l0 l1 hlen hsm hA0 hA1 J Jx hY W ((hW.cell (p := ⟨B0, 0, none⟩) (World.block_lt_of_cell? w _ hB0)).trans hB0) ((hW.cell (p := ⟨B1, 0, none⟩) (World.block_lt_of_cell? w _ hB1)).trans hB1) (Kd.C_below hr0 hW) (Kd.C_below hr1 hW) h0

theorem cell_at (w : World) (cs : Array Value) (t : Nat) {a : Addr} (ha : a = ⟨w.heap.size, 0, none⟩) (j : Nat) (v : Value) (h : cs[j]? = some v) : (w.alloc (.cells cs t)).cell? (a.add j) = some v := by
  subst ha
  have e : (⟨w.heap.size, 0, none⟩ : Addr).add j = ⟨w.heap.size, j, none⟩ := by unfold Addr.add; split <;> simp_all
  rw [e]
  unfold World.cell?
  simp only [heap_alloc_new]
  simpa using h
theorem cell_new_l (W : World) (v : Value) (t : TypeId) : (W.alloc (.cells #[v] t)).cell? ⟨W.heap.size, 0, none⟩ = some v ∧ (W.alloc (.cells #[v] t)).frozen? ⟨W.heap.size, 0, none⟩ = false := by
  constructor
  · unfold World.cell?; simp only [heap_alloc_new]; rfl
  · unfold World.frozen?; simp only [heap_alloc_new]; simp
theorem cell_alloc_l {W : World} {a : Addr} {v : Value} (o : Obj) (h : W.cell? a = some v) : (W.alloc o).cell? a = some v := cell_kept h (World.grownBy_alloc W o none) (fun r e => by cases e)
theorem frozen_alloc_l {W : World} {a : Addr} {v : Value} (o : Obj) (h : W.cell? a = some v) (hf : W.frozen? a = false) : (W.alloc o).frozen? a = false := (frozen_kept h (World.grownBy_alloc W o none) (fun r e => by cases e)).trans hf
theorem C_blocks {w : World} {A : Option Addr} {l : List Int} (h : Kd.C (Kd.int .i64) w A l.length l) : ∀ ad, A = some ad → 0 < l.length → ad.block < w.heap.size := by
  intro ad e hl
  obtain ⟨ad', e', hc⟩ := Kd.at_int h 0 (by omega) (by omega)
  rw [e] at e'
  injection e' with e'
  subst e'
  have := World.block_lt_of_cell? w _ hc
  rwa [add_block] at this
theorem grown_none {w w1 : World} (hg : w.grownBy w1 none) : Below w.heap.size w w1 := ⟨hg.os, hg.tape, hg.output, hg.size, fun k hk => hg.block k hk (by simp)⟩
theorem own_form {w : World} {base e n : Nat} {v : Value} {xs : List Value} (h : w.ownsRow base e 1 v n xs) (hp : 0 < xs.length) : ∃ g cap, v = .slice (some ⟨g, 0, none⟩) n cap ∧ base ≤ g ∧ g < w.heap.size := by
  have hl := own_lt h
  have hb := own_base h
  rcases h.2 with ⟨rfl, h2⟩ | ⟨g, cap, cur, rfl, hg, hh, r⟩
  · have h1 := h.1
    rw [h2] at h1
    omega
  · exact ⟨g, cap, rfl, hb g (by simp [Value.ownBlock]), hl g (by simp [Value.ownBlock])⟩
/-- Blocks outside S lie as they lay. -/
def Same (S : Nat → Prop) (W W' : World) : Prop := W.heap.size ≤ W'.heap.size ∧ ∀ k, k < W.heap.size → ¬ S k → W'.heap[k]? = W.heap[k]?
theorem Same.refl (S : Nat → Prop) (W : World) : Same S W W := ⟨Nat.le_refl _, fun _ _ _ => rfl⟩
theorem Same.trans {S : Nat → Prop} {A B C : World} (h : Same S A B) (h' : Same S B C) : Same S A C := ⟨Nat.le_trans h.1 h'.1, fun k hk hs => (h'.2 k (Nat.lt_of_lt_of_le hk h.1) hs).trans (h.2 k hk hs)⟩
theorem Same.set {S : Nat → Prop} {A B : World} (h : Same S A B) (p : Addr) (v : Value) (hp : S p.block) : Same S A (B.setCell p v) :=
  ⟨by simpa using h.1, fun k hk hs => (Below.heap_setCell B p v k (fun e => hs (by rw [e]; exact hp))).trans (h.2 k hk hs)⟩
theorem Same.alloc {S : Nat → Prop} {A B : World} (h : Same S A B) (o : Obj) : Same S A (B.alloc o) :=
  ⟨by have := h.1; simp; omega, fun k hk hs => (Below.heap_alloc B o k (Nat.lt_of_lt_of_le hk h.1)).trans (h.2 k hk hs)⟩
theorem Same.below {S : Nat → Prop} {A B C : World} (h : Same S A B) (hb : Below B.heap.size B C) : Same S A C := ⟨Nat.le_trans h.1 hb.size, fun k hk hs => (hb.block k (Nat.lt_of_lt_of_le hk h.1)).trans (h.2 k hk hs)⟩
theorem Same.grown {S : Nat → Prop} {A B C : World} (h : Same S A B) {row : Option Nat} (hg : B.grownBy C row) (hr : ∀ k, row = some k → S k) : Same S A C :=
  ⟨Nat.le_trans h.1 hg.size, fun k hk hs => (hg.block k (Nat.lt_of_lt_of_le hk h.1) (fun e => hs (hr k e.symm))).trans (h.2 k hk hs)⟩
theorem Same.others {S : Nat → Prop} {W W' : World} (h : Same S W W') (hc : ∀ k, S k → ∀ o, W.heap[k]? = some o → o.isCells = true) : KeepsOthers W W' :=
  ⟨h.1, fun k o hk ho => (h.2 k (Array.getElem?_eq_some_iff.1 hk).1 (fun hs => by rw [hc k hs o hk] at ho; cases ho)).trans hk⟩
theorem Same.keep {S : Nat → Prop} {n₀ B0 B1 : Nat} {W W' : World} (h : Same S W W') (hs : ∀ k, S k → n₀ ≤ k ∧ k ≠ B0 ∧ k ≠ B1) : Keep n₀ B0 B1 W W' := ⟨h.1, fun k hk hl => h.2 k hl (fun e => by have := hs k e; omega)⟩
theorem cells_of {W : World} {k : Nat} {c : Array Value} {t : TypeId} {fr : Nat × Nat} (h : W.heap[k]? = some (.cells c t fr)) : ∀ o, W.heap[k]? = some o → o.isCells = true := by
  intro o ho
  rw [h] at ho
  cases ho
  rfl
theorem below_dr {B : Nat} {a w : World} (h : Below B a w) (n : Nat) : Below B a (w.drewN n) := h.trans ⟨rfl, rfl, rfl, Nat.le_refl _, fun _ _ => rfl⟩
theorem set2 {X : World} {p q : Addr} {a b : Value} (hne : p ≠ q) (hp : X.cell? p = some a) (hq : X.cell? q = some b) (u v : Value) : ((X.setCell p u).setCell q v).cell? p = some u ∧ ((X.setCell p u).setCell q v).cell? q = some v := by
  have h1 := World.cell?_setCell_same' X p u (by rw [hp]; rfl)
  have h2 : (X.setCell p u).cell? q = some b := by rw [World.cell?_setCell_other X p q u hne]; exact hq
  exact ⟨by rw [World.cell?_setCell_other _ q p v (Ne.symm hne)]; exact h1, World.cell?_setCell_same' _ q v (by rw [h2]; rfl)⟩
theorem keep_t {n₀ B0 B1 : Nat} {A B C : World} (h : Keep n₀ B0 B1 A B) (h' : Keep n₀ B0 B1 B C) : Keep n₀ B0 B1 A C := h.trans h'
theorem keep_b {n₀ B0 B1 N : Nat} (h0 : n₀ ≤ N) (h1 : B0 < N) (h2 : B1 < N) (W : World) (l : Nat) (o o' : Obj) (hl : N ≤ l) (ho : W.heap[l]? = some o) (h3 : o.isCells = false) (h4 : o.isWalk = false) : Keep n₀ B0 B1 W (W.putObj l o') := by
  refine ⟨by simp [World.putObj], fun k hk hlt => ?_⟩
  have : l ≠ k := by omega
  simp [World.putObj, this]
end Go.Proofs.Ytbimmmmjdimebaa.Iter
