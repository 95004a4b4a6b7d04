/- What a law's walk holds of the memory: each row, each variable in memory between two bounds of blocks; one lemma a kind of step moves all of it. No condition. -/
import Derived.Test.YtbimmmmjdimebaaWLast
import Derived.Test.YtbimmmmjdimebaaWMore
namespace Go.Proofs.Ytbimmmmjdimebaa.Law
open Go.RowKit Go.Proofs.YtbimmmmjdimebaaW.PrintWords
set_option linter.unusedVariables false
/-- The world has only got new blocks, or draws: found by Lean from the way the world is written. -/
class Grew (w w' : World) : Prop where
  go : Below w.heap.size w w'
instance (w : World) : Grew w w := ⟨Below.refl _ _⟩
instance (w w' : World) (o : Obj) [h : Grew w w'] : Grew w (w'.alloc o) := ⟨below_alloc h.go o⟩
instance (w w' : World) [h : Grew w w'] : Grew w w'.drew := ⟨below_drew1 h.go⟩
instance (w w' : World) (m : Nat) [h : Grew w w'] : Grew w (w'.drewN m) := ⟨pw_below_drewN h.go m⟩
theorem bg {w0 w w' : World} (h : Below w0.heap.size w0 w) [g : Grew w w'] : Below w0.heap.size w0 w' := below_step h g.go
theorem rg {α : Type} {d : Kd α} {e base : Nat} {ok : Nat → Prop} {v : Value} {xs : List α} {w w' : World} (h : d.R e w base ok v xs) [g : Grew w w'] : d.R e w' base ok v xs := Kd.R_below h g.go
theorem sg {α : Type} {d : Kd α} {e base : Nat} {ok : Nat → Prop} {v : Value} {xs : List α} {w w' : World} (h : Kd.S d e w base ok v xs) [g : Grew w w'] : Kd.S d e w' base ok v xs := Kd.S_below h g.go
theorem cg {α : Type} {d : Kd α} {A : Option Addr} {n : Nat} {xs : List α} {w w' : World} (h : d.C w A n xs) [g : Grew w w'] : d.C w' A n xs := Kd.C_below h g.go
section
variable {α β : Type} {d : Kd α} {d' : Kd β} {e e' base base' : Nat} {ok ok' : Nat → Prop} {u v : Value} {xs : List α} {ys : List β} {w0 w w1 w2 : World}
theorem rE (a : Aside0 (d.R e w base ok u xs)) [g : Grew w w1] (h : d'.R e' w2 w1.heap.size ok' v ys) (hb : Below w1.heap.size w1 w2) : Aside0 (d.R e w2 base (fun k => ok k ∧ some k ≠ v.ownBlock) u xs) := ⟨Kd.R_elder' (rg a.out) (Kd.R_base h) hb⟩
theorem rB (a : Aside0 (d.R e w base ok u xs)) [g : Grew w w1] (hb : Below w1.heap.size w1 w2) : Aside0 (d.R e w2 base ok u xs) := ⟨Kd.R_below (rg a.out) hb⟩
theorem bS (a : Aside0 (Below w0.heap.size w0 w)) [g : Grew w w1] (hb : Below w1.heap.size w1 w2) : Aside0 (Below w0.heap.size w0 w2) := ⟨below_step (bg a.out) hb⟩
theorem rN (h : d'.R e' w2 w1.heap.size ok' v ys) (a : Aside0 (d.R e w base ok u xs)) [g : Grew w w1] : d'.R e' w2 w1.heap.size (fun k => ok' k ∧ some k ≠ u.ownBlock) v ys := Kd.R_new' h (Kd.R_lt (rg (w' := w1) a.out))
theorem rL (h : d'.R e' w2 w1.heap.size ok' v ys) (a : Aside0 (Below w0.heap.size w0 w)) [g : Grew w w1] : Aside0 (d'.R e' w2 w0.heap.size ok' v ys) := ⟨Kd.R_lower h (below_size (bg (w' := w1) a.out))⟩
end
class KG (g : Nat) (W W' : World) : Prop where
  go : ∀ {w : World}, KeepBut w W g none → KeepBut w W' g none
instance (g : Nat) (W : World) : KG g W W := ⟨id⟩
instance (g : Nat) (W W' : World) (o : Obj) [h : KG g W W'] : KG g W (W'.alloc o) := ⟨fun x => keep_alloc (h.go x) o⟩
instance (g : Nat) (W W' : World) [h : KG g W W'] : KG g W W'.drew := ⟨fun x => keep_drew (h.go x)⟩
instance (g : Nat) (W W' : World) (m : Nat) [h : KG g W W'] : KG g W (W'.drewN m) := ⟨fun x => keep_drewN (h.go x) m⟩
instance (g : Nat) (W W' : World) (j : Nat) (u : Value) [h : KG g W W'] : KG g W (W'.setCell ⟨g, j, none⟩ u) := ⟨fun x => KeepBut.set_ (h.go x) j u⟩
theorem kg {g : Nat} {w W W' : World} (h : Aside0 (KeepBut w W g none)) [m : KG g W W'] : KeepBut w W' g none := m.go h.out
class BG (w0 : World) (g : Nat) (W W' : World) : Prop where
  go : w0.heap.size ≤ g → Below w0.heap.size w0 W → Below w0.heap.size w0 W'
instance (w0 : World) (g : Nat) (W : World) : BG w0 g W W := ⟨fun _ => id⟩
instance (w0 : World) (g : Nat) (W W' : World) (o : Obj) [h : BG w0 g W W'] : BG w0 g W (W'.alloc o) := ⟨fun y x => below_alloc (h.go y x) o⟩
instance (w0 : World) (g : Nat) (W W' : World) [h : BG w0 g W W'] : BG w0 g W W'.drew := ⟨fun y x => below_drew1 (h.go y x)⟩
instance (w0 : World) (g : Nat) (W W' : World) (m : Nat) [h : BG w0 g W W'] : BG w0 g W (W'.drewN m) := ⟨fun y x => pw_below_drewN (h.go y x) m⟩
instance (w0 : World) (g : Nat) (W W' : World) (j : Nat) (u : Value) [h : BG w0 g W W'] : BG w0 g W (W'.setCell ⟨g, j, none⟩ u) := ⟨fun y x => below_set (h.go y x) y⟩
theorem bi {w0 : World} {g : Nat} {W W' : World} (h : Aside0 (Below w0.heap.size w0 W)) (hg : w0.heap.size ≤ g) [m : BG w0 g W W'] : Below w0.heap.size w0 W' := m.go hg h.out
/-- One thing that is held: it lies in the blocks from lo to hi. -/
structure St where
  lo : Nat
  hi : Nat
  F : World → Prop
  mv : ∀ {w w' : World}, (∀ k, lo ≤ k → k < hi → w'.heap[k]? = w.heap[k]?) → F w → F w'
/-- A row; b: the least block that it may have. -/
def rowI {α : Type} (d : Kd α) (e b lo hi : Nat) (ok : Nat → Prop) (v : Value) (xs : List α) : St :=
  ⟨lo, hi, fun w => d.R e w b (fun k => (lo ≤ k ∧ k < hi) ∧ ok k) v xs, fun hm h => Kd.R_move h (fun k hk => hm k hk.1.1 hk.1.2)⟩
/-- A row of rows, each block in it once. -/
def rowsI {α : Type} (d : Kd α) (e b lo hi : Nat) (ok : Nat → Prop) (v : Value) (xs : List α) : St :=
  ⟨lo, hi, fun w => Kd.S d e w b (fun k => (lo ≤ k ∧ k < hi) ∧ ok k) v xs, fun hm h => Kd.S_move h (fun k hk => hm k hk.1.1 hk.1.2)⟩
/-- A variable in memory. -/
def boxI (g : Nat) (cs : Array Value) (t : TypeId) : St :=
  ⟨g, g + 1, fun w => w.heap[g]? = some (.cells cs t (0, 0)), fun hm h => (hm _ (Nat.le_refl _) (Nat.lt_succ_self _)).trans h⟩
def Inv : List St → World → Prop
  | [], _ => True
  | s :: L, w => (s.F w ∧ s.hi ≤ w.heap.size) ∧ Inv L w
/-- The block g is none of theirs. -/
def Off (g : Nat) : List St → Prop
  | [] => True
  | s :: L => (g < s.lo ∨ s.hi ≤ g) ∧ Off g L
/-- None of theirs lies from lo to hi. -/
def Apart (lo hi : Nat) : List St → Prop
  | [] => True
  | s :: L => (s.hi ≤ lo ∨ hi ≤ s.lo) ∧ Apart lo hi L
section
variable {L : List St} {w w' : World}
theorem Inv.below : ∀ {L : List St}, Inv L w → Below w.heap.size w w' → Inv L w'
  | [], _, _ => trivial
  | s :: L, h, hb => ⟨⟨s.mv (fun k _ hk => hb.block k (Nat.lt_of_lt_of_le hk h.1.2)) h.1.1, Nat.le_trans h.1.2 hb.size⟩, Inv.below h.2 hb⟩
theorem Inv.on (I : Inv L w) (f : Inv L w → Inv L w') : Inv L w' := f I
theorem Inv.to {w1 : World} (I : Inv L w) (h : w1 = w') (f : Inv L w → Inv L w') : Inv L w1 := by rw [h]; exact f I
theorem Inv.cons {s : St} (h : s.F w ∧ s.hi ≤ w.heap.size) (I : Inv L w) : Inv (s :: L) w := ⟨h, I⟩
theorem Inv.alloc (h : Inv L w) (o : Obj) : Inv L (w.alloc o) := h.below (below_alloc (Below.refl _ _) o)
theorem Inv.drew (h : Inv L w) : Inv L w.drew := h.below (below_drew (Below.refl _ _))
theorem Inv.drewN (h : Inv L w) (m : Nat) : Inv L (w.drewN m) := h.below (pw_below_drewN (Below.refl _ _) m)
theorem Inv.set {g j : Nat} (u : Value) : ∀ {L : List St}, Inv L w → Off g L → Inv L (w.setCell ⟨g, j, none⟩ u)
  | [], _, _ => trivial
  | s :: L, h, ho => ⟨⟨s.mv (fun k h1 h2 => Below.heap_setCell w ⟨g, j, none⟩ u k (by rintro rfl; exact ho.1.elim (fun h3 => by omega) (fun h3 => by omega))) h.1.1, by simpa [World.setCell] using h.1.2⟩, Inv.set u h.2 ho.2⟩
theorem Inv.put {g j : Nat} {t : TypeId} {cs cs' : Array Value} {u : Value} (h : Inv (boxI g cs t :: L) w) (ho : Off g L) (e : cs.setIfInBounds j u = cs') : Inv (boxI g cs' t :: L) (w.setCell ⟨g, j, none⟩ u) :=
  ⟨⟨blk_put h.1.1 j u e, by have h2 : g + 1 ≤ w.heap.size := h.1.2; show g + 1 ≤ (w.setCell ⟨g, j, none⟩ u).heap.size; simpa [World.setCell] using h2⟩, Inv.set u h.2 ho⟩
theorem Inv.kept {lo hi : Nat} {S : Nat → Prop} (hk : Kept w w' S) (hS : ∀ k, S k → lo ≤ k ∧ k < hi) : ∀ {L : List St}, Inv L w → Apart lo hi L → Inv L w'
  | [], _, _ => trivial
  | s :: L, h, ho => ⟨⟨s.mv (fun k h1 h2 => hk.2 k (Nat.lt_of_lt_of_le h2 h.1.2) (fun hs => by have := hS k hs; exact ho.1.elim (fun h3 => by omega) (fun h3 => by omega))) h.1.1, Nat.le_trans h.1.2 hk.1⟩, Inv.kept hk hS h.2 ho.2⟩
theorem Inv.kept2 {lo hi g : Nat} {S : Nat → Prop} (hk : Kept w w' (fun k => S k ∨ k = g)) (hS : ∀ k, S k ∨ k = g → (lo ≤ k ∧ k < hi) ∨ k = g) : ∀ {L : List St}, Inv L w → Apart lo hi L → Off g L → Inv L w'
  | [], _, _, _ => trivial
  | s :: L, h, ho, hg => ⟨⟨s.mv (fun k h1 h2 => hk.2 k (Nat.lt_of_lt_of_le h2 h.1.2) (fun hs => by
      have h5 := hS k hs
      rcases h5 with h5 | h5
      · exact ho.1.elim (fun h3 => by omega) (fun h3 => by omega)
      · exact hg.1.elim (fun h3 => by omega) (fun h3 => by omega))) h.1.1, Nat.le_trans h.1.2 hk.1⟩, Inv.kept2 hk hS h.2 ho.2 hg.2⟩
theorem rowI_new {α : Type} {d : Kd α} {e : Nat} {ok ok' : Nat → Prop} {v : Value} {xs : List α} (h : d.R e w' w.heap.size ok v xs) (hok : ∀ k, ok k → ok' k) : (rowI d e w.heap.size w.heap.size w'.heap.size ok' v xs).F w' ∧ (rowI d e w.heap.size w.heap.size w'.heap.size ok' v xs).hi ≤ w'.heap.size :=
  ⟨Kd.R_mono (Kd.R_bound h) (fun k hk => ⟨⟨hk.2.1, hk.2.2.1⟩, hok k hk.1⟩), Nat.le_refl _⟩
theorem rowsI_new {α : Type} {d : Kd α} {e : Nat} {ok ok' : Nat → Prop} {v : Value} {xs : List α} (h : Kd.S d e w' w.heap.size ok v xs) (hok : ∀ k, ok k → ok' k) : (rowsI d e w.heap.size w.heap.size w'.heap.size ok' v xs).F w' ∧ (rowsI d e w.heap.size w.heap.size w'.heap.size ok' v xs).hi ≤ w'.heap.size :=
  ⟨Kd.S_mono (Kd.S_bound h) (fun k hk => ⟨⟨hk.2.1, hk.2.2.1⟩, hok k hk.1⟩), Nat.le_refl _⟩
end
theorem at_world {P : Program} {f : FuncId} {args : Array Value} {w : World} {Q : Ending → World → Prop} (h : ∀ w1, w1 = w → Calls P f args w1 Q) : Calls P f args w Q := h w rfl
theorem region_world {P : Program} {Q : Exit → Act → World → Prop} {c : Code} {a : Act} {w : World} (h : ∀ w1, w1 = w → c.wp P Q a w1) : c.wp P Q a w := h w rfl
theorem post_world {Q : Exit → Act → World → Prop} {e : Exit} {a : Act} {w : World} (h : ∀ w1, w1 = w → Q e a w1) : Q e a w := h w rfl
theorem blk_of {g : Nat} {cs : Array Value} {t : TypeId} {w : World} (h : (boxI g cs t).F w) : w.heap[g]? = some (.cells cs t (0, 0)) := h
end Go.Proofs.Ytbimmmmjdimebaa.Law
