/- The engine, first part: what values in memory say (Own), and how that stands when memory changes. No condition. -/
import Derived.Below
import Derived.Laws.World
namespace Go.Proofs.YtjpeblicfhfniaaDoor.Eng
set_option linter.unusedVariables false
set_option linter.unusedSimpArgs false

inductive Ty where
  | unit | int (k : IntKind) | bool | str | pair (a b : Ty) | sl (e : Ty)
  deriving DecidableEq
@[reducible] def Ty.den : Ty → Type
  | .unit => Unit | .int _ => Int | .bool => Bool | .str => ByteArray | .pair a b => a.den × b.den | .sl e => List e.den
def Ty.zero : (t : Ty) → t.den
  | .unit => () | .int _ => (0 : Int) | .bool => false | .str => ByteArray.empty | .pair a b => (a.zero, b.zero) | .sl _ => []
def Ty.sz : Ty → Nat
  | .unit => 0 | .pair a b => a.sz + b.sz | _ => 1
def Ty.agg : Ty → Bool
  | .unit => true | .pair _ _ => true | _ => false
/-- The cells of the zero value. -/
def Ty.zc : Ty → List Value
  | .unit => [] | .int k => [.int k 0] | .bool => [.bool false] | .str => [.string ByteArray.empty] | .pair a b => a.zc ++ b.zc | .sl _ => [.slice none 0 0]
def InK (k : IntKind) (x : Int) : Prop := k.min ≤ x ∧ x ≤ k.max
def maxL : Nat := 2 ^ 47
def seg (l : List Value) (o n : Nat) : List Value := (l.drop o).take n
abbrev Hp := Nat → Option Obj
def hp (w : World) : Hp := fun b => w.heap[b]?

/-- A row that is read: sz cells an element, from the place A on. -/
def Row0 {α : Type} (h : Hp) (Z : Nat → Prop) (sz : Nat) (R : List Value → α → Prop) (A : Option Addr) (xs : List α) : Prop :=
  xs ≠ [] → ∃ b o arr ty fz, A = some ⟨b, o, none⟩ ∧ Z b ∧ h b = some (.cells arr ty fz) ∧ o + xs.length * sz ≤ arr.size ∧
    ∀ i x, xs[i]? = some x → R (seg arr.toList (o + i * sz) sz) x
/-- A row that is one's own, its block with it. -/
def RowN {α : Type} (h : Hp) (sz : Nat) (R : List Nat → List Value → α → Prop) (B : List Nat) (A : Option Addr) (c : Nat) (xs : List α) : Prop :=
  (A = none ∧ c = 0 ∧ xs = [] ∧ B = []) ∨
  ∃ (b o : Nat) (arr : Array Value) (ty : TypeId) (Bs : List (List Nat)), A = some ⟨b, o, none⟩ ∧ h b = some (.cells arr ty (0, 0)) ∧ o + c * sz ≤ arr.size ∧ B = b :: Bs.flatten ∧ Bs.length = xs.length ∧
    ∀ i x Bi, xs[i]? = some x → Bs[i]? = some Bi → R Bi (seg arr.toList (o + i * sz) sz) x

/-- The cells cs hold x; n levels of rows are one's own (their blocks: B); the others are read only, in blocks of Z. -/
def Own (h : Hp) (Z : Nat → Prop) : (t : Ty) → Nat → List Nat → List Value → t.den → Prop
  | .unit, _, B, cs, _ => B = [] ∧ cs = []
  | .int k, _, B, cs, x => B = [] ∧ cs = [.int k x] ∧ InK k x
  | .bool, _, B, cs, x => B = [] ∧ cs = [.bool x]
  | .str, _, B, cs, x => B = [] ∧ cs = [.string x] ∧ x.size ≤ maxL
  | .pair a b, n, B, cs, x => ∃ B1 B2 c1 c2, B = B1 ++ B2 ∧ cs = c1 ++ c2 ∧ Own h Z a n B1 c1 x.1 ∧ Own h Z b n B2 c2 x.2
  | .sl e, n, B, cs, xs => ∃ A c, cs = [.slice A xs.length c] ∧ xs.length ≤ c ∧ xs.length ≤ maxL ∧
      match n with
      | 0 => B = [] ∧ Row0 h Z e.sz (Own h Z e 0 []) A xs
      | m + 1 => RowN h e.sz (Own h Z e m) B A c xs

section
variable {h h' : Hp} {Z Z' : Nat → Prop}
theorem Own.len : ∀ {t : Ty} {n : Nat} {B : List Nat} {cs : List Value} {x : t.den}, Own h Z t n B cs x → cs.length = t.sz
  | .unit, _, _, _, _, ⟨_, e⟩ => by rw [e]; rfl
  | .int k, _, _, _, _, ⟨_, e, _⟩ => by rw [e]; rfl
  | .bool, _, _, _, _, ⟨_, e⟩ => by rw [e]; rfl
  | .str, _, _, _, _, ⟨_, e, _⟩ => by rw [e]; rfl
  | .pair a b, _, _, _, _, ⟨_, _, _, _, _, e, h1, h2⟩ => by rw [e, List.length_append, h1.len, h2.len]; rfl
  | .sl e, _, _, _, _, ⟨_, _, e', _⟩ => by rw [e']; rfl
theorem Own.b0 : ∀ {t : Ty} {B : List Nat} {cs : List Value} {x : t.den}, Own h Z t 0 B cs x → B = []
  | .unit, _, _, _, ⟨e, _⟩ => e
  | .int k, _, _, _, ⟨e, _⟩ => e
  | .bool, _, _, _, ⟨e, _⟩ => e
  | .str, _, _, _, ⟨e, _⟩ => e
  | .pair a b, _, _, _, ⟨_, _, _, _, e, _, h1, h2⟩ => by rw [e, h1.b0, h2.b0]; rfl
  | .sl e, _, _, _, ⟨_, _, _, _, _, e', _⟩ => e'
theorem Own.mono (hz : ∀ b, Z b → (h b).isSome → h' b = h b ∧ Z' b) : ∀ {t : Ty} {n : Nat} {B : List Nat} {cs : List Value} {x : t.den}, (∀ b ∈ B, h' b = h b) → Own h Z t n B cs x → Own h' Z' t n B cs x
  | .unit, _, _, _, _, _, o => o
  | .int k, _, _, _, _, _, o => o
  | .bool, _, _, _, _, _, o => o
  | .str, _, _, _, _, _, o => o
  | .pair a b, _, _, _, _, hb, ⟨B1, B2, c1, c2, e1, e2, h1, h2⟩ => ⟨B1, B2, c1, c2, e1, e2, h1.mono hz (fun b m => hb b (by rw [e1]; simp [m])), h2.mono hz (fun b m => hb b (by rw [e1]; simp [m]))⟩
  | .sl e, 0, _, _, _, _, ⟨A, c, e1, e2, e3, e4, r⟩ => ⟨A, c, e1, e2, e3, e4, fun hx => by
      obtain ⟨b, o, arr, ty, fz, ha, hzb, hh, hl, hr⟩ := r hx
      obtain ⟨q1, q2⟩ := hz b hzb (by rw [hh]; rfl)
      exact ⟨b, o, arr, ty, fz, ha, q2, q1.trans hh, hl, fun i x hi => (hr i x hi).mono hz (fun _ m => by cases m)⟩⟩
  | .sl e, n + 1, _, _, _, hb, ⟨A, c, e1, e2, e3, r⟩ => ⟨A, c, e1, e2, e3, by
      rcases r with r | ⟨b, o, arr, ty, Bs, ha, hh, hl, hB, hn, hr⟩
      · exact Or.inl r
      · refine Or.inr ⟨b, o, arr, ty, Bs, ha, (hb b (by rw [hB]; simp)).trans hh, hl, hB, hn, fun i x Bi hi hj => (hr i x Bi hi hj).mono hz (fun k m => hb k ?_)⟩
        rw [hB]; exact List.mem_cons_of_mem _ (List.mem_flatten.2 ⟨Bi, List.mem_of_getElem? hj, m⟩)⟩
theorem Own.freeze (hz : ∀ b, Z b → Z' b) : ∀ {t : Ty} {n : Nat} {B : List Nat} {cs : List Value} {x : t.den}, (∀ b ∈ B, Z' b) → Own h Z t n B cs x → Own h Z' t 0 [] cs x
  | .unit, _, _, _, _, _, o => ⟨rfl, o.2⟩
  | .int k, _, _, _, _, _, o => ⟨rfl, o.2⟩
  | .bool, _, _, _, _, _, o => ⟨rfl, o.2⟩
  | .str, _, _, _, _, _, o => ⟨rfl, o.2⟩
  | .pair a b, _, _, _, _, hb, ⟨B1, B2, c1, c2, e1, e2, h1, h2⟩ => ⟨[], [], c1, c2, rfl, e2, h1.freeze hz (fun b m => hb b (by rw [e1]; simp [m])), h2.freeze hz (fun b m => hb b (by rw [e1]; simp [m]))⟩
  | .sl e, 0, _, _, _, _, ⟨A, c, e1, e2, e3, e4, r⟩ => ⟨A, c, e1, e2, e3, rfl, fun hx => by
      obtain ⟨b, o, arr, ty, fz, ha, hzb, hh, hl, hr⟩ := r hx
      exact ⟨b, o, arr, ty, fz, ha, hz b hzb, hh, hl, fun i x hi => (hr i x hi).freeze hz (fun _ m => by cases m)⟩⟩
  | .sl e, n + 1, _, _, _, hb, ⟨A, c, e1, e2, e3, r⟩ => ⟨A, c, e1, e2, e3, rfl, fun hx => by
      rcases r with ⟨_, _, r, _⟩ | ⟨b, o, arr, ty, Bs, ha, hh, hl, hB, hn, hr⟩
      · exact absurd r hx
      · refine ⟨b, o, arr, ty, (0, 0), ha, hb b (by rw [hB]; simp), hh, Nat.le_trans (Nat.add_le_add_left (Nat.mul_le_mul_right _ e2) _) hl, fun i x hi => ?_⟩
        have hi' : i < Bs.length := by rw [hn]; exact (List.getElem?_eq_some_iff.1 hi).1
        refine (hr i x Bs[i] hi (List.getElem?_eq_getElem hi')).freeze hz (fun k m => hb k ?_)
        rw [hB]; exact List.mem_cons_of_mem _ (List.mem_flatten.2 ⟨_, List.getElem_mem hi', m⟩)⟩
theorem Own.weaken (hz : ∀ b, Z b → Z' b) {t : Ty} {n : Nat} {B : List Nat} {cs : List Value} {x : t.den} (o : Own h Z t n B cs x) : Own h Z' t n B cs x :=
  o.mono (fun b hb _ => ⟨rfl, hz b hb⟩) (fun _ _ => rfl)
/-- Blocks of one's own are there. -/
theorem Own.there : ∀ {t : Ty} {n : Nat} {B : List Nat} {cs : List Value} {x : t.den}, Own h Z t n B cs x → ∀ b ∈ B, ∃ arr ty, h b = some (.cells arr ty (0, 0))
  | .unit, _, _, _, _, o, b, m => by rw [o.1] at m; cases m
  | .int k, _, _, _, _, o, b, m => by rw [o.1] at m; cases m
  | .bool, _, _, _, _, o, b, m => by rw [o.1] at m; cases m
  | .str, _, _, _, _, o, b, m => by rw [o.1] at m; cases m
  | .pair a b', _, _, _, _, ⟨B1, B2, c1, c2, e1, e2, h1, h2⟩, b, m => by
      rw [e1] at m
      rcases List.mem_append.1 m with m | m
      · exact h1.there b m
      · exact h2.there b m
  | .sl e, 0, _, _, _, ⟨A, c, e1, e2, e3, e4, r⟩, b, m => by rw [e4] at m; cases m
  | .sl e, n + 1, _, _, _, ⟨A, c, e1, e2, e3, r⟩, b, m => by
      rcases r with ⟨_, _, _, r⟩ | ⟨b', o, arr, ty, Bs, ha, hh, hl, hB, hn, hr⟩
      · rw [r] at m; cases m
      · rw [hB] at m
        rcases List.mem_cons.1 m with rfl | m
        · exact ⟨arr, ty, hh⟩
        · obtain ⟨Bi, hBi, m⟩ := List.mem_flatten.1 m
          obtain ⟨i, hi, rfl⟩ := List.mem_iff_getElem.1 hBi
          have hx : i < _ := hn ▸ hi
          exact (hr i _ _ (List.getElem?_eq_getElem hx) (List.getElem?_eq_getElem hi)).there b m
theorem Own.zero : ∀ (t : Ty) (n : Nat), Own h Z t n [] t.zc t.zero
  | .unit, _ => ⟨rfl, rfl⟩
  | .int k, _ => ⟨rfl, rfl, by unfold InK IntKind.min IntKind.max IntKind.signed IntKind.bits; cases k <;> decide⟩
  | .bool, _ => ⟨rfl, rfl⟩
  | .str, _ => ⟨rfl, rfl, Nat.zero_le _⟩
  | .pair a b, n => ⟨[], [], a.zc, b.zc, rfl, rfl, Own.zero a n, Own.zero b n⟩
  | .sl e, 0 => ⟨none, 0, rfl, Nat.le_refl _, Nat.zero_le _, rfl, fun hx => absurd rfl hx⟩
  | .sl e, n + 1 => ⟨none, 0, rfl, Nat.le_refl _, Nat.zero_le _, Or.inl ⟨rfl, rfl, rfl, rfl⟩⟩
theorem Own.nil (e : Ty) : ∀ n, Own h Z (.sl e) n [] [.slice none 0 0] []
  | 0 => ⟨none, 0, rfl, Nat.le_refl _, Nat.zero_le _, rfl, fun hx => absurd rfl hx⟩
  | n + 1 => ⟨none, 0, rfl, Nat.le_refl _, Nat.zero_le _, Or.inl ⟨rfl, rfl, rfl, rfl⟩⟩
theorem Ty.zc_len : ∀ t : Ty, t.zc.length = t.sz
  | .unit => rfl | .int _ => rfl | .bool => rfl | .str => rfl | .sl _ => rfl
  | .pair a b => by simp [Ty.zc, Ty.sz, zc_len a, zc_len b]
end
/-! ### what data in memory is -/
def WF : (t : Ty) → t.den → Prop
  | .unit, _ => True
  | .int k, x => InK k x
  | .bool, _ => True
  | .str, s => s.size ≤ maxL
  | .pair a b, x => WF a x.1 ∧ WF b x.2
  | .sl e, xs => xs.length ≤ maxL ∧ ∀ x ∈ xs, WF e x
theorem Own.wf {h : Hp} {Z : Nat → Prop} : ∀ {t : Ty} {n : Nat} {B : List Nat} {cs : List Value} {x : t.den}, Own h Z t n B cs x → WF t x
  | .unit, _, _, _, _, _ => trivial
  | .int k, _, _, _, _, o => o.2.2
  | .bool, _, _, _, _, _ => trivial
  | .str, _, _, _, _, o => o.2.2
  | .pair a b, _, _, _, _, ⟨_, _, _, _, _, _, o1, o2⟩ => ⟨o1.wf, o2.wf⟩
  | .sl e, 0, _, _, _, ⟨A, c, e1, e2, e3, e4, r⟩ => ⟨e3, fun x hx => by
      have hne : _ ≠ [] := List.ne_nil_of_mem hx
      obtain ⟨b, o, arr, ty, fz, _, _, _, _, hr⟩ := r hne
      obtain ⟨i, hi, rfl⟩ := List.mem_iff_getElem.1 hx
      exact (hr i _ (List.getElem?_eq_getElem hi)).wf⟩
  | .sl e, n + 1, _, _, _, ⟨A, c, e1, e2, e3, r⟩ => ⟨e3, fun x hx => by
      rcases r with ⟨_, _, r, _⟩ | ⟨b, o, arr, ty, Bs, _, _, _, _, hn, hr⟩
      · subst r; cases hx
      · obtain ⟨i, hi, rfl⟩ := List.mem_iff_getElem.1 hx
        have hB : i < Bs.length := by rw [hn]; exact hi
        exact (hr i _ _ (List.getElem?_eq_getElem hi) (List.getElem?_eq_getElem hB)).wf⟩
end Go.Proofs.YtjpeblicfhfniaaDoor.Eng
