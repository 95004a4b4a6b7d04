/- Plain lemmas of this session on printed loops: copies, comparisons, marks. No Go in it, no condition. -/
import Derived.Test.YtbimmmmjdimebaaWWords
import Derived.Test.YtbimmmmjdimebaaWNEv
namespace Go.Proofs.Ytbimmmmjdimebaa.Plain
open Go.RowKit Go.Proofs.YtbimmmmjdimebaaW.PrintWords
set_option linter.unusedVariables false

theorem wr {x : Int} (h0 : -9223372036854775808 ≤ x) (h1 : x < 9223372036854775808) : wrap64 x = x := by unfold wrap64; omega

theorem Ev.succ {α : Type} {g : Nat → Option α} {r : α} (h : Ev (fun k => g (k + 1)) r) : Ev g r := by
  obtain ⟨K, hK⟩ := h
  refine ⟨K + 1, fun k hk => ?_⟩
  obtain ⟨k, rfl⟩ : ∃ m, k = m + 1 := ⟨k - 1, by omega⟩
  exact hK k (by omega)
theorem Ev.const {α : Type} {a r : α} (h : a = r) : Ev (fun _ => some a) r := ⟨0, fun _ _ => by rw [h]⟩
theorem Ev.pos {α : Type} {c : Prop} [Decidable c] {g f : Nat → Option α} {r : α} (h : c) (k : Ev g r) : Ev (fun n => if c then g n else f n) r := by
  simp only [if_pos h]; exact k
theorem Ev.neg {α : Type} {c : Prop} [Decidable c] {g f : Nat → Option α} {r : α} (h : ¬ c) (k : Ev f r) : Ev (fun n => if c then g n else f n) r := by
  simp only [if_neg h]; exact k
theorem wr1 (i : Nat) (h : i ≤ 1099515822080) : wrap64 ((i : Int) + 1) = ((i + 1 : Nat) : Int) := by rw [wr (by omega) (by omega)]; omega
/-- Two evaluations of one function at one argument are one. -/
theorem Ev.uniq {α : Type} {g : Nat → Option α} {r s : α} (h : Ev g r) (h' : Ev g s) : r = s := by
  obtain ⟨K, hK⟩ := h
  obtain ⟨K', hK'⟩ := h'
  have a := hK (K + K') (by omega)
  have b := hK' (K + K') (by omega)
  rw [a] at b
  exact Option.some.inj b
theorem Ev.of_some {α : Type} {g : Nat → Option α} {a r : α} {k0 : Nat} (hg : ∀ k, LeO (g k) (g (k + 1))) (h : Ev g r) (h' : g k0 = some a) : a = r := Ev.uniq (Ev.of hg h') h
/-- A part without rounds. -/
theorem Ev.bind0 {α β : Type} {o : Option α} {f : Nat → α → Option β} {a : α} {r : β} (h : o = some a) (k : Ev (fun n => f n a) r) : Ev (fun n => o.bind (f n)) r := by
  rw [h]; exact k

/-- A counted loop: what holds of the state at i leads to the end. -/
theorem rd_eq (xs : List Int) (i : Nat) (h : i < xs.length) : rd xs (i : Int) = xs[i] := by
  unfold rd; simp [h]
theorem rd_def (xs : List Int) (i : Nat) : rd xs (i : Int) = xs.getD i 0 := by unfold rd; simp

theorem set_take (x3 x0 : List Int) (i : Nat) (hi : i < x0.length) (hl : x3.length = x0.length) (hp : x3.take i = x0.take i) :
    (x3.set i (rd x0 (i : Int))).take (i + 1) = x0.take (i + 1) := by
  have hi3 : i < x3.length := by omega
  rw [List.take_succ_eq_append_getElem (by simpa using hi3), List.take_succ_eq_append_getElem hi, List.take_set_of_le (Nat.le_refl _), hp, rd_eq _ _ hi]
  simp

theorem copy_from {F : Nat → List Int → List Int → Int → Option (List Int)}
    (hF : ∀ k x0 x3 x4, F (k + 1) x0 x3 x4 = if x4 < (x0.length : Int) then (if 0 ≤ x4 then (if x4 < (x3.length : Int) then (F k x0 (x3.set (x4 : Int).toNat (rd x0 x4)) (wrap64 (x4 + 1))) else (none)) else (none)) else (some x3))
    (x0 : List Int) (hb : x0.length ≤ 1048576) (d : Nat) : ∀ (i : Nat) (x3 : List Int), i + d = x0.length → x3.length = x0.length → x3.take i = x0.take i → Ev (fun k => F k x0 x3 (i : Int)) x0 := by
  induction d with
  | zero =>
    intro i x3 hi hl hp
    refine Ev.succ ?_
    simp only [hF]
    refine Ev.neg (by omega) ?_
    refine Ev.const ?_
    rw [List.take_of_length_le (by omega), List.take_of_length_le (by omega)] at hp
    exact hp
  | succ d ih =>
    intro i x3 hi hl hp
    refine Ev.succ ?_
    simp only [hF]
    refine Ev.pos (by omega) (Ev.pos (by omega) (Ev.pos (by omega) ?_))
    simp only [Int.toNat_natCast, wr1 i (by omega)]
    exact ih (i + 1) _ (by omega) (by simpa using hl) (set_take x3 x0 i (by omega) hl hp)

theorem copy_ev {F : Nat → List Int → List Int → Int → Option (List Int)}
    (hF : ∀ k x0 x3 x4, F (k + 1) x0 x3 x4 = if x4 < (x0.length : Int) then (if 0 ≤ x4 then (if x4 < (x3.length : Int) then (F k x0 (x3.set (x4 : Int).toNat (rd x0 x4)) (wrap64 (x4 + 1))) else (none)) else (none)) else (some x3))
    (N : Nat) (hN : 1048576 ≤ N) (x0 : List Int) (hb : x0.length ≤ 1048576) :
    Ev (fun k => if 0 ≤ (x0.length : Int) then (if ((x0.length : Int) : Int).toNat ≤ N then (F k x0 (List.replicate ((x0.length : Int) : Int).toNat 0) 0) else (none)) else (none)) x0 := by
  refine Ev.pos (by omega) (Ev.pos (by omega) ?_)
  exact copy_from hF x0 hb x0.length 0 _ (by omega) (by simp) (by simp)

theorem eq_from {F : Nat → List Int → List Int → Int → Option Bool}
    (hF : ∀ k x0 x1 x5, F (k + 1) x0 x1 x5 = if x5 < (x0.length : Int) then (if 0 ≤ x5 then (if x5 < (x1.length : Int) then (if (rd x0 x5) = (rd x1 x5) then (F k x0 x1 (wrap64 (x5 + 1))) else (some false)) else (none)) else (none)) else (some true))
    (x : List Int) (hb : x.length ≤ 1048576) (d : Nat) : ∀ (i : Nat), i + d = x.length → Ev (fun k => F k x x (i : Int)) true := by
  induction d with
  | zero =>
    intro i hi
    refine Ev.succ ?_
    simp only [hF]
    refine Ev.neg (by omega) ?_
    exact Ev.const rfl
  | succ d ih =>
    intro i hi
    refine Ev.succ ?_
    simp only [hF]
    refine Ev.pos (by omega) (Ev.pos (by omega) (Ev.pos (by omega) (Ev.pos trivial ?_)))
    simp only [wr1 i (by omega)]
    exact ih (i + 1) (by omega)

/-- The comparison of a list with itself. -/
theorem eq_ev {F : Nat → List Int → List Int → Int → Option Bool}
    (hF : ∀ k x0 x1 x5, F (k + 1) x0 x1 x5 = if x5 < (x0.length : Int) then (if 0 ≤ x5 then (if x5 < (x1.length : Int) then (if (rd x0 x5) = (rd x1 x5) then (F k x0 x1 (wrap64 (x5 + 1))) else (some false)) else (none)) else (none)) else (some true))
    (x : List Int) (hb : x.length ≤ 1048576) :
    Ev (fun k => if (x.length : Int) = (x.length : Int) then (F k x x 0) else (some false)) true := by
  refine Ev.pos rfl ?_
  exact eq_from hF x hb x.length 0 (by omega)

/-- What the marks are: c of m, m + 1, .. -/
def marks (c : Int → Int) (m n : Nat) : List Int := (List.range n).map fun i => c ((m + i : Nat) : Int)
theorem marks_length (c : Int → Int) (m n : Nat) : (marks c m n).length = n := by simp [marks]
theorem marks_get (c : Int → Int) (m n i : Nat) (h : i < n) : rd (marks c m n) (i : Int) = c ((m + i : Nat) : Int) := by
  rw [rd_eq _ _ (by simpa [marks] using h)]; simp [marks]

theorem mark_from {F : Nat → List Int → Int → Int → Option (Int × List Int)} {c : Int → Int}
    (hF : ∀ k x0 x1 x5, F (k + 1) x0 x1 x5 = if x5 < (x0.length : Int) then (if 0 ≤ x5 then (F k (x0.set (x5 : Int).toNat (c x1)) (wrap64 (x1 + 1)) (wrap64 (x5 + 1))) else (none)) else (some (x1, x0)))
    (m n : Nat) (hm : m ≤ 1099511627776) (hn : n ≤ 1048576) (d : Nat) : ∀ (i : Nat) (x0 : List Int), i + d = n → x0.length = n → x0.take i = (marks c m n).take i → Ev (fun k => F k x0 ((m + i : Nat) : Int) (i : Int)) (((m + n : Nat) : Int), marks c m n) := by
  induction d with
  | zero =>
    intro i x0 hi hl hp
    refine Ev.succ ?_
    simp only [hF]
    refine Ev.neg (by omega) ?_
    refine Ev.const ?_
    obtain rfl : i = n := by omega
    rw [List.take_of_length_le (by omega), List.take_of_length_le (by rw [marks_length]; omega)] at hp
    rw [hp]
  | succ d ih =>
    intro i x0 hi hl hp
    refine Ev.succ ?_
    simp only [hF]
    refine Ev.pos (by omega) (Ev.pos (by omega) ?_)
    simp only [Int.toNat_natCast, wr1 i (by omega), wr1 (m + i) (by omega)]
    have := ih (i + 1) (x0.set i (c ((m + i : Nat) : Int))) (by omega) (by simpa using hl) (by
      rw [← marks_get c m n i (by omega)]
      exact set_take x0 (marks c m n) i (by rw [marks_length]; omega) (by rw [marks_length]; omega) hp)
    exact this

theorem mark_ev {F : Nat → List Int → Int → Int → Option (Int × List Int)} {c : Int → Int}
    (hF : ∀ k x0 x1 x5, F (k + 1) x0 x1 x5 = if x5 < (x0.length : Int) then (if 0 ≤ x5 then (F k (x0.set (x5 : Int).toNat (c x1)) (wrap64 (x1 + 1)) (wrap64 (x5 + 1))) else (none)) else (some (x1, x0)))
    (m : Nat) (x : List Int) (hm : m ≤ 1099511627776) (hn : x.length ≤ 1048576) : Ev (fun k => F k x (m : Int) 0) (((m + x.length : Nat) : Int), marks c m x.length) :=
  mark_from hF m x.length hm hn x.length 0 x (by omega) rfl (by simp)

theorem held_from {F : Nat → List Int → Int → Int → Option Int} {c : Int → Int}
    (hF : ∀ k x0 x1 x5, F (k + 1) x0 x1 x5 = if x5 < (x0.length : Int) then (if 0 ≤ x5 then (if (rd x0 x5) = (c x1) then (F k x0 (wrap64 (x1 + 1)) (wrap64 (x5 + 1))) else (some (-1))) else (none)) else (some x1))
    (m n : Nat) (hm : m ≤ 1099511627776) (hn : n ≤ 1048576) (d : Nat) : ∀ (i : Nat), i + d = n → Ev (fun k => F k (marks c m n) ((m + i : Nat) : Int) (i : Int)) ((m + n : Nat) : Int) := by
  induction d with
  | zero =>
    intro i hi
    refine Ev.succ ?_
    simp only [hF]
    refine Ev.neg (by rw [marks_length]; omega) ?_
    refine Ev.const ?_
    congr 1; omega
  | succ d ih =>
    intro i hi
    refine Ev.succ ?_
    simp only [hF]
    refine Ev.pos (by rw [marks_length]; omega) (Ev.pos (by omega) (Ev.pos (marks_get c m n i (by omega)) ?_))
    simp only [wr1 i (by omega), wr1 (m + i) (by omega)]
    exact ih (i + 1) (by omega)

theorem held_ev {F : Nat → List Int → Int → Int → Option Int} {c : Int → Int}
    (hF : ∀ k x0 x1 x5, F (k + 1) x0 x1 x5 = if x5 < (x0.length : Int) then (if 0 ≤ x5 then (if (rd x0 x5) = (c x1) then (F k x0 (wrap64 (x1 + 1)) (wrap64 (x5 + 1))) else (some (-1))) else (none)) else (some x1))
    (m n : Nat) (hm : m ≤ 1099511627776) (hn : n ≤ 1048576) : Ev (fun k => F k (marks c m n) (m : Int) 0) ((m + n : Nat) : Int) :=
  held_from hF m n hm hn n 0 (by omega)

end Go.Proofs.Ytbimmmmjdimebaa.Plain
