/- The engine, first part: what values in memory say (Own), and how that stands when memory changes. No condition. -/
import Derived.Below
import Derived.Laws.World
import GoSem.Core.Code
import Derived.Calls
import GoSem.Dispatch
import Derived.Laws.StructEq
namespace Go.Proofs.YtmjeghlfmhbjdaaDoor.Eng
set_option linter.unusedVariables false
set_option linter.unusedSimpArgs false

inductive Ty where
 | unit | int (k : IntKind) | bool | str | pair (a b : Ty) | sl (e : Ty)
 | any | arr (n : Nat) (e : Ty) | mp (k v : Ty) | ptr (e : Ty) | inil | ialt (t : TypeId) (a r : Ty)
 deriving DecidableEq
@[reducible] def Ty.den : Ty → Type
 | .unit => Unit | .int _ => Int | .bool => Bool | .str => ByteArray | .pair a b => a.den × b.den | .sl e => List e.den
 | .any => Value | .arr _ e => List e.den | .mp k v => Option (List (k.den × v.den)) | .ptr e => Option e.den | .inil => Unit | .ialt _ a r => a.den ⊕ r.den
def Ty.zero : (t : Ty) → t.den
 | .unit => () | .int _ => (0 : Int) | .bool => false | .str => ByteArray.empty | .pair a b => (a.zero, b.zero) | .sl _ => []
 | .any => Value.nilIface | .arr n e => List.replicate n e.zero | .mp _ _ => none | .ptr _ => none | .inil => () | .ialt _ _ r => .inr r.zero
def Ty.sz : Ty → Nat
 | .unit => 0 | .pair a b => a.sz + b.sz | .arr n e => n * e.sz | _ => 1
def Ty.agg : Ty → Bool
 | .unit => true | .pair _ _ => true | .arr _ _ => true | _ => false
/-- The cells of the zero value. -/
def Ty.zc : Ty → List Value
 | .unit => [] | .int k => [.int k 0] | .bool => [.bool false] | .str => [.string ByteArray.empty] | .pair a b => a.zc ++ b.zc | .sl _ => [.slice none 0 0]
 | .any => [.nilIface] | .arr n e => (List.replicate n e.zc).flatten | .mp _ _ => [.map none] | .ptr _ => [.pointer none] | .inil => [.nilIface] | .ialt _ _ _ => [.nilIface]
def InK (k : IntKind) (x : Int) : Prop := k.min ≤ x ∧ x ≤ k.max
def maxL : Nat := 2 ^ 47
def seg (l : List Value) (o n : Nat) : List Value := (l.drop o).take n
abbrev Hp := Nat → Option Obj
/-- the value of one cell -/
def one : Value → Bool
 | .agg _ => false | .tuple _ => false | _ => true
def valOf (agg : Bool) (cs : List Value) : Value := if agg then .agg cs.toArray else cs.headD undef
/-- What a map holds: its entries in the order of the object, the keys and values as data; the entries' births. -/
structure MapR {α γ : Type} (ka va : Bool) (RK : List Value → α → Prop) (RV : List Value → γ → Prop) (es : Array MapEntry) (cl : Nat) (xs : List (α × γ)) : Prop where
 len : es.size = xs.length
 key : ∀ (i : Nat) (e : MapEntry) (x : α × γ), es[i]? = some e → xs[i]? = some x → ∃ ck, e.key = valOf ka ck ∧ RK ck x.1
 val : ∀ (i : Nat) (e : MapEntry) (x : α × γ), es[i]? = some e → xs[i]? = some x → ∃ cv, e.val = valOf va cv ∧ RV cv x.2
 nodup : (es.toList.map (·.born)).Nodup
 born : ∀ e ∈ es.toList, e.born < cl
def hp (w : World) : Hp := fun b => w.heap[b]?

/-- A row that is read: sz cells an element, from the place A on. -/
def Row0 {α : Type} (h : Hp) (Z : Nat → Prop) (sz : Nat) (R : List Value → α → Prop) (A : Option Addr) (xs : List α) : Prop :=
 xs ≠ [] → ∃ b o arr ty fz, A = some ⟨b, o, none⟩ ∧ Z b ∧ h b = some (.cells arr ty fz) ∧ o + xs.length * sz ≤ arr.size ∧
  ∀ i x, xs[i]? = some x → R (seg arr.toList (o + i * sz) sz) x
/-- A row that is one's own, its block with it. -/
def RowN {α : Type} (h : Hp) (sz : Nat) (R : List Nat → List Value → α → Prop) (B : List Nat) (A : Option Addr) (c : Nat) (xs : List α) : Prop :=
 (A = none ∧ c = 0 ∧ xs = [] ∧ B = []) ∨
 ∃ (b o : Nat) (arr : Array Value) (ty : TypeId) (Bs : List (List Nat)), A = some ⟨b, o, none⟩ ∧ h b = some (.cells arr ty (0, 0)) ∧ o + c * sz ≤ arr.size ∧ B = b :: Bs.flatten ∧ Bs.length = xs.length ∧
  ∀ i x Bi, xs[i]? = some x → Bs[i]? = some Bi → R Bi (seg arr.toList (o + i * sz) sz) x

/-- The cells cs hold x; n levels of rows are one's own (their blocks: B); the others are read only, in blocks of Z. -/
def Own (h : Hp) (Z : Nat → Prop) : (t : Ty) → Nat → List Nat → List Value → t.den → Prop
 | .unit, _, B, cs, _ => B = [] ∧ cs = []
 | .int k, _, B, cs, x => B = [] ∧ cs = [.int k x] ∧ InK k x
 | .bool, _, B, cs, x => B = [] ∧ cs = [.bool x]
 | .str, _, B, cs, x => B = [] ∧ cs = [.string x] ∧ x.size ≤ maxL
 | .pair a b, n, B, cs, x => ∃ B1 B2 c1 c2, B = B1 ++ B2 ∧ cs = c1 ++ c2 ∧ Own h Z a n B1 c1 x.1 ∧ Own h Z b n B2 c2 x.2
 | .sl e, n, B, cs, xs => ∃ A c, cs = [.slice A xs.length c] ∧ xs.length ≤ c ∧ xs.length ≤ maxL ∧
   match n with
   | 0 => B = [] ∧ Row0 h Z e.sz (Own h Z e 0 []) A xs
   | m + 1 => RowN h e.sz (Own h Z e m) B A c xs
 | .any, _, B, cs, x => B = [] ∧ cs = [x] ∧ one x = true
 | .arr n e, _, B, cs, xs => B = [] ∧ xs.length = n ∧ cs.length = n * e.sz ∧ ∀ i x, xs[i]? = some x → Own h Z e 0 [] (seg cs (i * e.sz) e.sz) x
 | .mp k v, n, B, cs, x => match x with
  | none => B = [] ∧ cs = [.map none]
  | some xs => ∃ b es cl, cs = [.map (some b)] ∧ h b = some (.map es cl) ∧ (match n with | 0 => B = [] ∧ Z b | _ + 1 => B = [b]) ∧
   MapR k.agg v.agg (Own h Z k 0 []) (Own h Z v 0 []) es cl xs
 | .ptr e, n, B, cs, x => match x with
  | none => B = [] ∧ cs = [.pointer none]
  | some y => match n with
   | 0 => B = [] ∧ ∃ b o arr ty fz, cs = [.pointer (some ⟨b, o, none⟩)] ∧ Z b ∧ h b = some (.cells arr ty fz) ∧ o + e.sz ≤ arr.size ∧ Own h Z e 0 [] (seg arr.toList o e.sz) y
   | m + 1 => ∃ b cs' ty B', cs = [.pointer (some ⟨b, 0, none⟩)] ∧ B = b :: B' ∧ h b = some (.cells cs'.toArray ty (0, 0)) ∧ Own h Z e m B' cs' y
 | .inil, _, B, cs, _ => B = [] ∧ cs = [.nilIface]
 | .ialt t a r, n, B, cs, x => match x with
  | .inl y => ∃ cs', cs = [.iface t (valOf a.agg cs')] ∧ Own h Z a n B cs' y
  | .inr y => (B = [] ∧ cs = [.nilIface] ∧ y = r.zero) ∨ (cs.length = 1 ∧ Own h Z r n B cs y)

section
variable {h h' : Hp} {Z Z' : Nat → Prop}
theorem Own.len : ∀ {t : Ty} {n : Nat} {B : List Nat} {cs : List Value} {x : t.den}, Own h Z t n B cs x → cs.length = t.sz
 | .unit, _, _, _, _, ⟨_, e⟩ => by rw [e]; rfl
 | .int k, _, _, _, _, ⟨_, e, _⟩ => by rw [e]; rfl
 | .bool, _, _, _, _, ⟨_, e⟩ => by rw [e]; rfl
 | .str, _, _, _, _, ⟨_, e, _⟩ => by rw [e]; rfl
 | .pair a b, _, _, _, _, ⟨_, _, _, _, _, e, h1, h2⟩ => by rw [e, List.length_append, h1.len, h2.len]; rfl
 | .sl e, _, _, _, _, ⟨_, _, e', _⟩ => by rw [e']; rfl
 | .any, _, _, _, _, ⟨_, e', _⟩ => by rw [e']; rfl
 | .arr _ _, _, _, _, _, ⟨_, _, e', _⟩ => e'
 | .mp _ _, _, _, _, none, ⟨_, e'⟩ => by rw [e']; rfl
 | .mp _ _, _, _, _, some _, ⟨_, _, _, e', _⟩ => by rw [e']; rfl
 | .ptr _, _, _, _, none, ⟨_, e'⟩ => by rw [e']; rfl
 | .ptr _, 0, _, _, some _, ⟨_, _, _, _, _, _, e', _⟩ => by rw [e']; rfl
 | .ptr _, _ + 1, _, _, some _, ⟨_, _, _, _, e', _⟩ => by rw [e']; rfl
 | .inil, _, _, _, _, ⟨_, e'⟩ => by rw [e']; rfl
 | .ialt _ _ _, _, _, _, .inl _, ⟨_, e', _⟩ => by rw [e']; rfl
 | .ialt _ _ _, _, _, _, .inr _, o => by
   rcases o with ⟨_, e', _⟩ | ⟨e', _⟩
   ·rw [e']; rfl
   ·rw [e']; rfl
theorem Own.b0 : ∀ {t : Ty} {B : List Nat} {cs : List Value} {x : t.den}, Own h Z t 0 B cs x → B = []
 | .unit, _, _, _, ⟨e, _⟩ => e
 | .int k, _, _, _, ⟨e, _⟩ => e
 | .bool, _, _, _, ⟨e, _⟩ => e
 | .str, _, _, _, ⟨e, _⟩ => e
 | .pair a b, _, _, _, ⟨_, _, _, _, e, _, h1, h2⟩ => by rw [e, h1.b0, h2.b0]; rfl
 | .sl e, _, _, _, ⟨_, _, _, _, _, e', _⟩ => e'
 | .any, _, _, _, ⟨e, _⟩ => e
 | .arr _ _, _, _, _, ⟨e, _⟩ => e
 | .mp _ _, _, _, none, ⟨e, _⟩ => e
 | .mp _ _, _, _, some _, ⟨_, _, _, _, _, ⟨e, _⟩, _⟩ => e
 | .ptr _, _, _, none, ⟨e, _⟩ => e
 | .ptr _, _, _, some _, ⟨e, _⟩ => e
 | .inil, _, _, _, ⟨e, _⟩ => e
 | .ialt _ _ _, _, _, .inl _, ⟨_, _, o⟩ => o.b0
 | .ialt _ _ _, _, _, .inr _, o => by
   rcases o with ⟨e, _⟩ | ⟨_, o⟩
   ·exact e
   ·exact o.b0
theorem MapR.imp {α γ : Type} {ka va : Bool} {RK RK' : List Value → α → Prop} {RV RV' : List Value → γ → Prop} {es : Array MapEntry} {cl : Nat} {xs : List (α × γ)} (hk : ∀ c x, RK c x → RK' c x) (hv : ∀ c x, RV c x → RV' c x) (m : MapR ka va RK RV es cl xs) : MapR ka va RK' RV' es cl xs :=
 ⟨m.len, fun i e x h1 h2 => (m.key i e x h1 h2).imp fun c ⟨a, b⟩ => ⟨a, hk c _ b⟩, fun i e x h1 h2 => (m.val i e x h1 h2).imp fun c ⟨a, b⟩ => ⟨a, hv c _ b⟩, m.nodup, m.born⟩
theorem Own.mono (hz : ∀ b, Z b → (h b).isSome → h' b = h b ∧ Z' b) : ∀ {t : Ty} {n : Nat} {B : List Nat} {cs : List Value} {x : t.den}, (∀ b ∈ B, h' b = h b) → Own h Z t n B cs x → Own h' Z' t n B cs x
 | .unit, _, _, _, _, _, o => o
 | .int k, _, _, _, _, _, o => o
 | .bool, _, _, _, _, _, o => o
 | .str, _, _, _, _, _, o => o
 | .pair a b, _, _, _, _, hb, ⟨B1, B2, c1, c2, e1, e2, h1, h2⟩ => ⟨B1, B2, c1, c2, e1, e2, h1.mono hz (fun b m => hb b (by rw [e1]; simp [m])), h2.mono hz (fun b m => hb b (by rw [e1]; simp [m]))⟩
 | .sl e, 0, _, _, _, _, ⟨A, c, e1, e2, e3, e4, r⟩ => ⟨A, c, e1, e2, e3, e4, fun hx => by
   obtain ⟨b, o, arr, ty, fz, ha, hzb, hh, hl, hr⟩ := r hx
   obtain ⟨q1, q2⟩ := hz b hzb (by rw [hh]; rfl)
   exact ⟨b, o, arr, ty, fz, ha, q2, q1.trans hh, hl, fun i x hi => (hr i x hi).mono hz (fun _ m => by cases m)⟩⟩
 | .sl e, n + 1, _, _, _, hb, ⟨A, c, e1, e2, e3, r⟩ => ⟨A, c, e1, e2, e3, by
   rcases r with r | ⟨b, o, arr, ty, Bs, ha, hh, hl, hB, hn, hr⟩
   ·exact Or.inl r
   ·refine Or.inr ⟨b, o, arr, ty, Bs, ha, (hb b (by rw [hB]; simp)).trans hh, hl, hB, hn, fun i x Bi hi hj => (hr i x Bi hi hj).mono hz (fun k m => hb k ?_)⟩
    rw [hB]; exact List.mem_cons_of_mem _ (List.mem_flatten.2 ⟨Bi, List.mem_of_getElem? hj, m⟩)⟩
 | .any, _, _, _, _, _, o => o
 | .arr _ e, _, _, _, _, _, ⟨e1, e2, e3, r⟩ => ⟨e1, e2, e3, fun i x hi => (r i x hi).mono hz (fun _ m => by cases m)⟩
 | .mp _ _, _, _, _, none, _, o => o
 | .mp k v, n, _, _, some _, hb, ⟨b, es, cl, e1, e2, e3, r⟩ => by
   have r' := r.imp (fun c x (o : Own h Z k 0 [] c x) => o.mono hz (fun _ m => by cases m)) (fun c x (o : Own h Z v 0 [] c x) => o.mono hz (fun _ m => by cases m))
   cases n with
   | zero => obtain ⟨q1, q2⟩ := hz b e3.2 (by rw [e2]; rfl); exact ⟨b, es, cl, e1, q1.trans e2, ⟨e3.1, q2⟩, r'⟩
   | succ n => exact ⟨b, es, cl, e1, (hb b (by rw [e3]; simp)).trans e2, e3, r'⟩
 | .ptr _, _, _, _, none, _, o => o
 | .ptr e, 0, _, _, some _, _, ⟨e1, b, o, arr, ty, fz, e2, z, e3, e4, r⟩ => by
   obtain ⟨q1, q2⟩ := hz b z (by rw [e3]; rfl)
   exact ⟨e1, b, o, arr, ty, fz, e2, q2, q1.trans e3, e4, r.mono hz (fun _ m => by cases m)⟩
 | .ptr e, n + 1, _, _, some _, hb, ⟨b, cs', ty, B', e1, e2, e3, r⟩ =>
   ⟨b, cs', ty, B', e1, e2, (hb b (by rw [e2]; simp)).trans e3, r.mono hz (fun k m => hb k (by rw [e2]; exact List.mem_cons_of_mem _ m))⟩
 | .inil, _, _, _, _, _, o => o
 | .ialt _ a _, _, _, _, .inl _, hb, ⟨cs', e1, r⟩ => ⟨cs', e1, r.mono hz hb⟩
 | .ialt _ _ r', _, _, _, .inr _, hb, o => by
   rcases o with o | ⟨e1, r⟩
   ·exact .inl o
   ·exact .inr ⟨e1, r.mono hz hb⟩
theorem Own.freeze (hz : ∀ b, Z b → Z' b) : ∀ {t : Ty} {n : Nat} {B : List Nat} {cs : List Value} {x : t.den}, (∀ b ∈ B, Z' b) → Own h Z t n B cs x → Own h Z' t 0 [] cs x
 | .unit, _, _, _, _, _, o => ⟨rfl, o.2⟩
 | .int k, _, _, _, _, _, o => ⟨rfl, o.2⟩
 | .bool, _, _, _, _, _, o => ⟨rfl, o.2⟩
 | .str, _, _, _, _, _, o => ⟨rfl, o.2⟩
 | .pair a b, _, _, _, _, hb, ⟨B1, B2, c1, c2, e1, e2, h1, h2⟩ => ⟨[], [], c1, c2, rfl, e2, h1.freeze hz (fun b m => hb b (by rw [e1]; simp [m])), h2.freeze hz (fun b m => hb b (by rw [e1]; simp [m]))⟩
 | .sl e, 0, _, _, _, _, ⟨A, c, e1, e2, e3, e4, r⟩ => ⟨A, c, e1, e2, e3, rfl, fun hx => by
   obtain ⟨b, o, arr, ty, fz, ha, hzb, hh, hl, hr⟩ := r hx
   exact ⟨b, o, arr, ty, fz, ha, hz b hzb, hh, hl, fun i x hi => (hr i x hi).freeze hz (fun _ m => by cases m)⟩⟩
 | .sl e, n + 1, _, _, _, hb, ⟨A, c, e1, e2, e3, r⟩ => ⟨A, c, e1, e2, e3, rfl, fun hx => by
   rcases r with ⟨_, _, r, _⟩ | ⟨b, o, arr, ty, Bs, ha, hh, hl, hB, hn, hr⟩
   ·exact absurd r hx
   ·refine ⟨b, o, arr, ty, (0, 0), ha, hb b (by rw [hB]; simp), hh, Nat.le_trans (Nat.add_le_add_left (Nat.mul_le_mul_right _ e2) _) hl, fun i x hi => ?_⟩
    have hi' : i < Bs.length := by rw [hn]; exact (List.getElem?_eq_some_iff.1 hi).1
    refine (hr i x Bs[i] hi (List.getElem?_eq_getElem hi')).freeze hz (fun k m => hb k ?_)
    rw [hB]; exact List.mem_cons_of_mem _ (List.mem_flatten.2 ⟨_, List.getElem_mem hi', m⟩)⟩
 | .any, _, _, _, _, _, o => ⟨rfl, o.2⟩
 | .arr _ e, _, _, _, _, _, ⟨e1, e2, e3, r⟩ => ⟨rfl, e2, e3, fun i x hi => (r i x hi).freeze hz (fun _ m => by cases m)⟩
 | .mp _ _, _, _, _, none, _, o => ⟨rfl, o.2⟩
 | .mp k v, n, _, _, some _, hb, ⟨b, es, cl, e1, e2, e3, r⟩ => by
   have r' := r.imp (fun c x (o : Own h Z k 0 [] c x) => o.freeze hz (fun _ m => by cases m)) (fun c x (o : Own h Z v 0 [] c x) => o.freeze hz (fun _ m => by cases m))
   cases n with
   | zero => exact ⟨b, es, cl, e1, e2, ⟨rfl, hz b e3.2⟩, r'⟩
   | succ n => exact ⟨b, es, cl, e1, e2, ⟨rfl, hb b (by rw [e3]; simp)⟩, r'⟩
 | .ptr _, _, _, _, none, _, o => ⟨rfl, o.2⟩
 | .ptr e, 0, _, _, some _, _, ⟨e1, b, o, arr, ty, fz, e2, z, e3, e4, r⟩ => ⟨rfl, b, o, arr, ty, fz, e2, hz b z, e3, e4, r.freeze hz (fun _ m => by cases m)⟩
 | .ptr e, n + 1, _, _, some _, hb, ⟨b, cs', ty, B', e1, e2, e3, r⟩ => by
   have r' := r.freeze hz (fun k m => hb k (by rw [e2]; exact List.mem_cons_of_mem _ m))
   have hl := r.len
   refine ⟨rfl, b, 0, cs'.toArray, ty, (0, 0), e1, hb b (by rw [e2]; simp), e3, by simp [hl], ?_⟩
   have : seg cs'.toArray.toList 0 e.sz = cs' := by unfold seg; simp [← hl]
   rw [this]; exact r'
 | .inil, _, _, _, _, _, o => ⟨rfl, o.2⟩
 | .ialt _ a _, _, _, _, .inl _, hb, ⟨cs', e1, r⟩ => ⟨cs', e1, r.freeze hz hb⟩
 | .ialt _ _ r', _, _, _, .inr _, hb, o => by
   rcases o with ⟨_, o⟩ | ⟨e1, r⟩
   ·exact .inl ⟨rfl, o⟩
   ·exact .inr ⟨e1, r.freeze hz hb⟩
theorem Own.weaken (hz : ∀ b, Z b → Z' b) {t : Ty} {n : Nat} {B : List Nat} {cs : List Value} {x : t.den} (o : Own h Z t n B cs x) : Own h Z' t n B cs x :=
 o.mono (fun b hb _ => ⟨rfl, hz b hb⟩) (fun _ _ => rfl)
theorem seg_rep {l : List Value} : ∀ (n i : Nat), i < n → seg (List.replicate n l).flatten (i * l.length) l.length = l
 | 0, _, h => by omega
 | n + 1, 0, _ => by unfold seg; simp [List.replicate_succ]
 | n + 1, i + 1, h => by
  have ih := seg_rep (l := l) n i (by omega)
  unfold seg at ih ⊢
  rw [List.replicate_succ, List.flatten_cons, List.drop_append]
  rw [show (i + 1) * l.length = l.length + i * l.length by rw [Nat.succ_mul, Nat.add_comm]]
  rw [List.drop_of_length_le (by omega)]
  simpa using ih
theorem Ty.zc_len : ∀ t : Ty, t.zc.length = t.sz
 | .unit => rfl | .int _ => rfl | .bool => rfl | .str => rfl | .sl _ => rfl | .any => rfl | .mp _ _ => rfl | .ptr _ => rfl | .inil => rfl | .ialt _ _ _ => rfl
 | .pair a b => by simp [Ty.zc, Ty.sz, zc_len a, zc_len b]
 | .arr n e => by simp [Ty.zc, Ty.sz, zc_len e]
theorem Own.zero : ∀ (t : Ty) (n : Nat), Own h Z t n [] t.zc t.zero
 | .unit, _ => ⟨rfl, rfl⟩
 | .int k, _ => ⟨rfl, rfl, by unfold InK IntKind.min IntKind.max IntKind.signed IntKind.bits; cases k <;> decide⟩
 | .bool, _ => ⟨rfl, rfl⟩
 | .str, _ => ⟨rfl, rfl, Nat.zero_le _⟩
 | .pair a b, n => ⟨[], [], a.zc, b.zc, rfl, rfl, Own.zero a n, Own.zero b n⟩
 | .sl e, 0 => ⟨none, 0, rfl, Nat.le_refl _, Nat.zero_le _, rfl, fun hx => absurd rfl hx⟩
 | .sl e, n + 1 => ⟨none, 0, rfl, Nat.le_refl _, Nat.zero_le _, Or.inl ⟨rfl, rfl, rfl, rfl⟩⟩
 | .any, _ => ⟨rfl, rfl, rfl⟩
 | .arr m e, _ => ⟨rfl, List.length_replicate, Ty.zc_len (.arr m e), fun i x hx => by
   have hx' : (List.replicate m e.zero)[i]? = some x := hx
   rw [List.getElem?_replicate] at hx'
   split at hx'
   ·rename_i hi
    simp only [Option.some.injEq] at hx'; subst hx'
    have := seg_rep (l := e.zc) m i hi
    rw [Ty.zc_len] at this
    show Own h Z e 0 [] (seg (List.replicate m e.zc).flatten _ _) _
    rw [this]; exact Own.zero e 0
   ·cases hx'⟩
 | .mp _ _, _ => ⟨rfl, rfl⟩
 | .ptr _, _ => ⟨rfl, rfl⟩
 | .inil, _ => ⟨rfl, rfl⟩
 | .ialt _ _ _, _ => .inl ⟨rfl, rfl, rfl⟩
theorem Own.nil (e : Ty) : ∀ n, Own h Z (.sl e) n [] [.slice none 0 0] []
 | 0 => ⟨none, 0, rfl, Nat.le_refl _, Nat.zero_le _, rfl, fun hx => absurd rfl hx⟩
 | n + 1 => ⟨none, 0, rfl, Nat.le_refl _, Nat.zero_le _, Or.inl ⟨rfl, rfl, rfl, rfl⟩⟩
end
/-! ### what data in memory is -/
def WF : (t : Ty) → t.den → Prop
 | .unit, _ => True
 | .int k, x => InK k x
 | .bool, _ => True
 | .str, s => s.size ≤ maxL
 | .pair a b, x => WF a x.1 ∧ WF b x.2
 | .sl e, xs => xs.length ≤ maxL ∧ ∀ x ∈ xs, WF e x
 | .any, _ => True
 | .arr n e, xs => xs.length = n ∧ ∀ x ∈ xs, WF e x
 | .mp k v, x => ∀ xs, x = some xs → ∀ x ∈ xs, WF k x.1 ∧ WF v x.2
 | .ptr e, x => ∀ y, x = some y → WF e y
 | .inil, _ => True
 | .ialt _ a r, x => match x with | .inl y => WF a y | .inr y => WF r y
theorem Own.wf {h : Hp} {Z : Nat → Prop} : ∀ {t : Ty} {n : Nat} {B : List Nat} {cs : List Value} {x : t.den}, Own h Z t n B cs x → WF t x
 | .unit, _, _, _, _, _ => trivial
 | .int k, _, _, _, _, o => o.2.2
 | .bool, _, _, _, _, _ => trivial
 | .str, _, _, _, _, o => o.2.2
 | .pair a b, _, _, _, _, ⟨_, _, _, _, _, _, o1, o2⟩ => ⟨o1.wf, o2.wf⟩
 | .sl e, 0, _, _, _, ⟨A, c, e1, e2, e3, e4, r⟩ => ⟨e3, fun x hx => by
   have hne : _ ≠ [] := List.ne_nil_of_mem hx
   obtain ⟨b, o, arr, ty, fz, _, _, _, _, hr⟩ := r hne
   obtain ⟨i, hi, rfl⟩ := List.mem_iff_getElem.1 hx
   exact (hr i _ (List.getElem?_eq_getElem hi)).wf⟩
 | .sl e, n + 1, _, _, _, ⟨A, c, e1, e2, e3, r⟩ => ⟨e3, fun x hx => by
   rcases r with ⟨_, _, r, _⟩ | ⟨b, o, arr, ty, Bs, _, _, _, _, hn, hr⟩
   ·subst r; cases hx
   ·obtain ⟨i, hi, rfl⟩ := List.mem_iff_getElem.1 hx
    have hB : i < Bs.length := by rw [hn]; exact hi
    exact (hr i _ _ (List.getElem?_eq_getElem hi) (List.getElem?_eq_getElem hB)).wf⟩
 | .any, _, _, _, _, _ => trivial
 | .arr _ _, _, _, _, _, ⟨_, e2, _, r⟩ => ⟨e2, fun x hx => by
   obtain ⟨i, hi, rfl⟩ := List.mem_iff_getElem.1 hx
   exact (r i _ (List.getElem?_eq_getElem hi)).wf⟩
 | .mp _ _, _, _, _, none, _ => fun xs hy => by cases hy
 | .mp _ _, _, _, _, some _, ⟨b, es, cl, _, _, _, r⟩ => fun xs hy x hx => by
   cases hy
   obtain ⟨i, hi, rfl⟩ := List.mem_iff_getElem.1 hx
   have hi' : i < es.size := by rw [r.len]; exact hi
   obtain ⟨_, _, h1⟩ := r.key i _ _ (Array.getElem?_eq_getElem hi') (List.getElem?_eq_getElem hi)
   obtain ⟨_, _, h2⟩ := r.val i _ _ (Array.getElem?_eq_getElem hi') (List.getElem?_eq_getElem hi)
   exact ⟨Own.wf h1, Own.wf h2⟩
 | .ptr _, _, _, _, none, _ => fun y hy => by cases hy
 | .ptr _, 0, _, _, some _, ⟨_, _, _, _, _, _, _, _, _, _, r⟩ => fun y hy => by cases hy; exact r.wf
 | .ptr _, _ + 1, _, _, some _, ⟨_, _, _, _, _, _, _, r⟩ => fun y hy => by cases hy; exact r.wf
 | .inil, _, _, _, _, _ => trivial
 | .ialt _ a _, _, _, _, .inl _, ⟨_, _, r⟩ => r.wf
 | .ialt _ _ r', _, _, _, .inr y, o => by
   rcases o with ⟨_, _, rfl⟩ | ⟨_, r⟩
   ·exact (Own.zero (h := h) (Z := Z) r' 0).wf
   ·exact r.wf
end Go.Proofs.YtmjeghlfmhbjdaaDoor.Eng

/- The engine, second part: the machine over plain data. Its arithmetic stands behind a variable (Mth), so that evaluating the machine does not evaluate it. No condition. -/
namespace Go.Proofs.YtmjeghlfmhbjdaaDoor.Eng
set_option linter.unusedVariables false
set_option linter.unusedSimpArgs false

/-- The arithmetic, the lists, the texts. -/
structure Mth where
 wrap : IntKind → Int → Int
 add : Int → Int → Int
 sub : Int → Int → Int
 mul : Int → Int → Int
 quo : Int → Int → Int
 rem : Int → Int → Int
 bit : BinOp → IntKind → Int → Int → Int
 shl : IntKind → Int → Int → Int
 shr : IntKind → Int → Int → Int
 lt : Int → Int → Prop
 le : Int → Int → Prop
 eq : Int → Int → Prop
 dec : Prop → Bool
 not : Bool → Bool
 same : Bool → Bool → Bool
 or : Bool → Bool → Bool
 len : {α : Type} → List α → Nat
 get : {α : Type} → List α → Int → α → α
 set : {α : Type} → List α → Int → α → List α
 app : {α : Type} → List α → List α → List α
 cut : {α : Type} → List α → Int → Int → List α
 rep : {α : Type} → Int → α → List α
 ofN : Nat → Int
 room : {α : Type} → List α → List α → Prop
 makes : Int → Prop
 sEq : ByteArray → ByteArray → Bool
 sLt : ByteArray → ByteArray → Bool
 sLen : ByteArray → Int
 sGet : ByteArray → Int → Int
 sCut : ByteArray → Int → Int → ByteArray
 sApp : ByteArray → ByteArray → ByteArray
 sRoom : ByteArray → ByteArray → Prop
 toB : ByteArray → List Int
 ofB : List Int → ByteArray
 maxI : Int → Int → Int
 minI : Int → Int → Int
 rune : ByteArray → Int → Int
 runeW : ByteArray → Int → Int
 mget : {α γ : Type} → List (α × γ) → α → γ → γ
 mhas : {α γ : Type} → List (α × γ) → α → Prop
 mput : {α γ : Type} → List (α × γ) → α → γ → List (α × γ)
 mdel : {α γ : Type} → List (α × γ) → α → List (α × γ)
 isN : {α : Type} → Option α → Prop
 val : {α : Type} → Option α → α → α
 over : {α : Type} → List α → Int → List α → List α
 same2 : {α : Type} → List α → List α → Prop
 bytes : Int → Int → List Int

inductive SV : Type where
 | hole (n : Nat)
 | pv (dep : List Nat) (t : Ty) (x : t.den)
 | nils
 | ref (r : Nat)
 | ad (r : Nat) (e : Ty) (i : Int) (p : List Nat)
 | fad (dep : List Nat) (e : Ty) (xs : List e.den) (i : Int) (p : List Nat)
 | nilA
 | consA (h t : SV)
 | nilT
 | consT (h t : SV)
 | nilI
 | nilP
 | nilM
 | arp (r : Nat) (e : Ty) (n : Nat)
 | vw (r : Nat) (e : Ty) (lo hi : Int)
 | ifs (t : TypeId) (a : Ty) (v : SV)
 | gl (g : Nat)
 | fn (f : Nat)
inductive Ch : Type where
 | row (lvl : Nat) (e : Ty) (xs : List e.den)
 | box (v : SV)
 | iter (s : ByteArray) (p : Int)
 | mp (k v : Ty) (xs : List (k.den × v.den))
 | glob (l : List (Nat × Value))
structure Ctx where
 nt : Nat
 slots : List (Nat × SV)
 roots : List (Nat × Ch)
 anch : List SV
/-- What is known of the types: t ↦ its form; the bytes of an element; the level of a row that is made at this type; whether `r[:h]` of an own row hands the row on. -/
structure Tab where
 ty : TypeId → Option Ty
 lv : TypeId → Nat
 mv : Bool
 mth : TypeId → String → Option FuncId
 wr : List FuncId
 eq : List TypeId

def look {α : Type} (n : Nat) : List (Nat × α) → Option α
 | [] => none
 | (m, x) :: l => if m = n then some x else look n l
def putL {α : Type} (n : Nat) (x : α) : List (Nat × α) → List (Nat × α)
 | [] => [(n, x)]
 | (m, y) :: l => if m = n then (n, x) :: l else (m, y) :: putL n x l
def del {α : Type} (n : Nat) : List (Nat × α) → List (Nat × α)
 | [] => []
 | (m, y) :: l => if m = n then del n l else (m, y) :: del n l
def putS {α : Type} (n : Nat) (x : α) (l : List (Nat × α)) : List (Nat × α) := (n, x) :: del n l
def has {α : Type} (n : Nat) : List (Nat × α) → Bool
 | [] => false
 | (m, _) :: l => if m = n then true else has n l
def mem (n : Nat) : List Nat → Bool
 | [] => false
 | m :: l => if m = n then true else mem n l
def fresh : Nat → Nat → List (Nat × Ch) → Nat
 | 0, n, _ => n
 | f + 1, n, l => if has n l then fresh f (n + 1) l else n
def Ctx.get (Γ : Ctx) (n : Nat) : SV := (look n Γ.slots).getD (.hole 0)
def Ctx.new (Γ : Ctx) : Nat := fresh Γ.roots.length 0 Γ.roots
def inKB (k : IntKind) (n : Int) : Bool := decide (k.min ≤ n) && decide (n ≤ k.max)
def ofConst : Value → SV
 | .int k n => if inKB k n then .pv [] (.int k) n else .hole 1
 | .bool b => .pv [] .bool b
 | .string s => if s.size ≤ maxL then .pv [] .str s else .hole 1
 | .slice none 0 0 => .nils
 | .nilIface => .nilI
 | .pointer none => .nilP
 | .map none => .nilM
 | _ => .hole 1
def Ctx.eval (Γ : Ctx) : Operand → SV
 | .tmp t => Γ.get t
 | .const v => ofConst v
 | .global g => .gl g
 | .func f => .fn f
def Ty.hasSl : Ty → Bool
 | .pair a b => a.hasSl || b.hasSl
 | .sl _ => true
 | .arr _ e => e.hasSl
 | .mp _ _ => true
 | .ptr _ => true
 | .ialt _ a r => a.hasSl || r.hasSl
 | _ => false
/-- the rest of an interface's forms -/
def isI : Ty → Bool
 | .inil => true
 | .ialt _ _ r => isI r
 | _ => false
def tyAt : Ty → List Nat → Option Ty
 | t, [] => some t
 | .pair a _, 0 :: p => tyAt a p
 | .pair _ b, (n + 1) :: p => tyAt b (n :: p)
 | _, _ :: _ => none
def offAt : Ty → List Nat → Nat
 | .pair a _, 0 :: p => offAt a p
 | .pair a b, (n + 1) :: p => a.sz + offAt b (n :: p)
 | _, _ => 0
def getAt : (t : Ty) → t.den → List Nat → Option ((u : Ty) × u.den)
 | t, x, [] => some ⟨t, x⟩
 | .pair a _, x, 0 :: p => getAt a x.1 p
 | .pair _ b, x, (n + 1) :: p => getAt b x.2 (n :: p)
 | _, _, _ :: _ => none
def as (t : Ty) (s : (u : Ty) × u.den) : Option t.den := if h : s.1 = t then some (h ▸ s.2) else none
def setAt : (t : Ty) → t.den → List Nat → ((u : Ty) × u.den) → Option t.den
 | t, _, [], s => as t s
 | .pair a b, x, 0 :: p, s => (setAt a x.1 p s).map fun y => (y, x.2)
 | .pair a b, x, (n + 1) :: p, s => (setAt b x.2 (n :: p) s).map fun y => (x.1, y)
 | _, _, _ :: _, _ => none
/-- the zero of a struct or a variable, its rows as nil -/
def zeroSV : Ty → SV
 | .sl _ => .nils
 | .unit => .nilA
 | .pair a b => .consA (zeroSV a) (zeroSV b)
 | .any => .nilI
 | .inil => .nilI
 | .ialt _ _ _ => .nilI
 | .ptr _ => .nilP
 | .mp _ _ => .nilM
 | t => .pv [] t t.zero
def SV.sz : SV → Nat
 | .hole n => n
 | .pv _ t _ => t.sz
 | .nilA => 0
 | .consA a b => a.sz + b.sz
 | _ => 1
def SV.tup : SV → Bool
 | .nilT => true | .consT _ _ => true | _ => false
def SV.isAgg : SV → Bool
 | .nilA => true | .consA _ _ => true | .pv _ t _ => t.agg | _ => false
def fits : SV → Ty → Bool
 | .consA a b, .pair x y => fits a x && fits b y
 | .nilA, .unit => true
 | .pv _ t _, e => decide (t = e)
 | .hole n, e => decide (n = e.sz)
 | .nils, .sl _ => true
 | .ref _, .sl _ => true
 | .nilI, .any => true
 | .nilI, .inil => true
 | .nilI, .ialt _ _ _ => true
 | .nilP, .ptr _ => true
 | .nilM, .mp _ _ => true
 | .ref _, .mp _ _ => true
 | .ad _ _ _ _, .ptr _ => true
 | .fad _ _ _ _ _, .ptr _ => true
 | .ifs _ _ _, .ialt _ _ _ => true
 | _, _ => false
def noHole : SV → Bool
 | .hole _ => false
 | .consA a b => noHole a && noHole b
 | .nilT => false
 | .consT _ _ => false
 | _ => true
def svAt : SV → List Nat → Option SV
 | v, [] => some v
 | .consA a _, 0 :: p => svAt a p
 | .consA _ b, (n + 1) :: p => svAt b (n :: p)
 | .pv d t x, p => (getAt t x p).map fun s => .pv d s.1 s.2
 | _, _ => none
def svSet : SV → List Nat → SV → Option SV
 | v, [], u => if u.sz = v.sz ∧ u.isAgg = v.isAgg then some u else none
 | .consA a b, 0 :: p, u => (svSet a p u).map fun y => .consA y b
 | .consA a b, (n + 1) :: p, u => (svSet b (n :: p) u).map fun y => .consA a y
 | _, _, _ => none
def kill (r : Nat) : SV → SV
 | .pv d t x => if mem r d then .hole t.sz else .pv d t x
 | .ref q => if q = r then .hole 1 else .ref q
 | .ad q e i p => if q = r then .hole 1 else .ad q e i p
 | .fad d e xs i p => if mem r d then .hole 1 else .fad d e xs i p
 | .consA a b => .consA (kill r a) (kill r b)
 | .consT a b => .consT (kill r a) (kill r b)
 | .arp q e n => if q = r then .hole 1 else .arp q e n
 | .vw q e l h => if q = r then .hole 1 else .vw q e l h
 | .ifs t a v => .ifs t a (kill r v)
 | v => v
/-- only what was read out of r -/
def killD (r : Nat) : SV → SV
 | .pv d t x => if mem r d then .hole t.sz else .pv d t x
 | .fad d e xs i p => if mem r d then .hole 1 else .fad d e xs i p
 | .consA a b => .consA (killD r a) (killD r b)
 | .consT a b => .consT (killD r a) (killD r b)
 | .ifs t a v => .ifs t a (killD r v)
 | v => v
def mapS (f : SV → SV) : List (Nat × SV) → List (Nat × SV)
 | [] => []
 | (n, v) :: l => (n, f v) :: mapS f l
def mapC (f : SV → SV) : List (Nat × Ch) → List (Nat × Ch)
 | [] => []
 | (n, .box v) :: l => (n, .box (f v)) :: mapC f l
 | (n, .row a b c) :: l => (n, .row a b c) :: mapC f l
 | (n, .iter s p) :: l => (n, .iter s p) :: mapC f l
 | (n, .mp k v xs) :: l => (n, .mp k v xs) :: mapC f l
 | (n, .glob g) :: l => (n, .glob g) :: mapC f l
def mapA (f : SV → SV) : List SV → List SV
 | [] => []
 | v :: l => f v :: mapA f l
def Ctx.map (f : SV → SV) (Γ : Ctx) : Ctx := ⟨Γ.nt, mapS f Γ.slots, mapC f Γ.roots, mapA f Γ.anch⟩
def Ctx.set (Γ : Ctx) (r : Nat) (c : Ch) : Ctx := ⟨Γ.nt, Γ.slots, putL r c Γ.roots, Γ.anch⟩
def Ctx.del (Γ : Ctx) (r : Nat) : Ctx := ⟨Γ.nt, Γ.slots, Eng.del r Γ.roots, Γ.anch⟩
def Ctx.add (Γ : Ctx) (r : Nat) (c : Ch) : Ctx := ⟨Γ.nt, Γ.slots, (r, c) :: Γ.roots, Γ.anch⟩
/-- The slot d gets v. -/
def Ctx.put (Γ : Ctx) (d : Option Nat) (v : SV) : Option Ctx :=
 match d with
 | none => some Γ
 | some n => if n < Γ.nt then some ⟨Γ.nt, putS n v Γ.slots, Γ.roots, Γ.anch⟩ else none
def Ctx.on (Γ : Ctx) (d : Option Nat) (v : SV) (K : Ctx → Prop) : Prop := match Γ.put d v with | some Γ' => K Γ' | none => False
def Ctx.root (Γ : Ctx) (r : Nat) : Option Ch := look r Γ.roots

/-- A slot's value as plain data of the form t, with the roots that it is read out of. -/
def den0 (R : List (Nat × Ch)) : (t : Ty) → SV → Option (t.den × List Nat)
 | t, .pv d u x => (as t ⟨u, x⟩).map fun y => (y, d)
 | .sl e, .nils => some ([], [])
 | .sl e, .ref r => match look r R with
  | some (.row _ f xs) => (as (.sl e) ⟨.sl f, xs⟩).map fun y => (y, [r])
  | _ => none
 | .unit, .nilA => some ((), [])
 | .pair a b, .consA x y => match den0 R a x, den0 R b y with
  | some p, some q => some ((p.1, q.1), p.2 ++ q.2)
  | _, _ => none
 | .any, .nilI => some (Value.nilIface, [])
 | .inil, .nilI => some ((), [])
 | .ialt _ _ r, .nilI => some (.inr r.zero, [])
 | .ialt t a r, .ifs u b v => if u = t ∧ b = a ∧ v.isAgg = a.agg then (den0 R a v).map fun y => (.inl y.1, y.2) else if isI r then (den0 R r (.ifs u b v)).map fun y => (.inr y.1, y.2) else none
 | .ptr _, .nilP => some (none, [])
 | .ptr e, .ad r f i [] => match look r R with
  | some (.box v) => if f = e ∧ i = 0 then (den0 R e v).map fun y => (some y.1, r :: y.2) else none
  | _ => none
 | .mp _ _, .nilM => some (none, [])
 | .mp k v, .ref r => match look r R with
  | some (.mp k' v' xs) => (as (.mp k v) ⟨.mp k' v', some xs⟩).map fun y => (y, [r])
  | _ => none
 | _, _ => none
def denL (R : List (Nat × Ch)) (t : Ty) : List SV → Option (List t.den × List Nat)
 | [] => some ([], [])
 | v :: l => match den0 R t v, denL R t l with
  | some p, some q => some (p.1 :: q.1, p.2 ++ q.2)
  | _, _ => none
/-- data as a variable's state, field by field -/
def svD : (t : Ty) → t.den → SV
 | .unit, _ => .nilA
 | .pair a b, x => .consA (svD a x.1) (svD b x.2)
 | t, x => .pv [] t x
/-- A slot's value as data of the form t of which n levels of rows are one's own: these roots are given away. -/
def denN (R : List (Nat × Ch)) : (n : Nat) → (t : Ty) → SV → Option (t.den × List Nat)
 | _, .sl e, .nils => some ([], [])
 | n, .sl e, .ref r => match look r R with
  | some (.row m f xs) => if m + 1 = n then (as (.sl e) ⟨.sl f, xs⟩).map fun y => (y, [r]) else none
  | _ => none
 | _, .unit, .nilA => some ((), [])
 | n, .pair a b, .consA x y => match denN R n a x, denN R n b y with
  | some p, some q => some ((p.1, q.1), p.2 ++ q.2)
  | _, _ => none
 | _, .any, .nilI => some (Value.nilIface, [])
 | _, .inil, .nilI => some ((), [])
 | _, .ialt _ _ r, .nilI => some (.inr r.zero, [])
 | n, .ialt t a r, .ifs u b v => if u = t ∧ b = a ∧ v.isAgg = a.agg then (denN R n a v).map fun y => (.inl y.1, y.2) else if isI r then (denN R n r (.ifs u b v)).map fun y => (.inr y.1, y.2) else none
 | _, .ptr _, .nilP => some (none, [])
 | n + 1, .ptr e, .ad r f i [] => match look r R with
  | some (.box v) => if f = e ∧ i = 0 then (denN R n e v).map fun y => (some y.1, r :: y.2) else none
  | _ => none
 | _, .mp _ _, .nilM => some (none, [])
 | _ + 1, .mp k v, .ref r => match look r R with
  | some (.mp k' v' xs) => (as (.mp k v) ⟨.mp k' v', some xs⟩).map fun y => (y, [r])
  | _ => none
 | n, t, .pv d u x => match t.hasSl with
  | true => (match n, d with
   | 0, [] => (as t ⟨u, x⟩).map fun y => (y, [])
   | _, _ => none)
  | false => (as t ⟨u, x⟩).map fun y => (y, [])
 | _, _, _ => none
def isD : List Nat → Bool | [] => true | _ => false

section
variable (M : Mth)
def cmp (op : BinOp) (x y : Int) : Option Bool :=
 match op with
 | .eql => some (M.dec (M.eq x y))
 | .neq => some (M.not (M.dec (M.eq x y)))
 | .lss => some (M.dec (M.lt x y))
 | .leq => some (M.dec (M.le x y))
 | .gtr => some (M.dec (M.lt y x))
 | .geq => some (M.dec (M.le y x))
 | _ => none
def intBin (op : BinOp) (k : IntKind) (x y : Int) (K : SV → Prop) : Prop :=
 match op with
 | .add => K (.pv [] (.int k) (M.wrap k (M.add x y)))
 | .sub => K (.pv [] (.int k) (M.wrap k (M.sub x y)))
 | .mul => K (.pv [] (.int k) (M.wrap k (M.mul x y)))
 | .quo => (M.eq y 0 → False) ∧ K (.pv [] (.int k) (M.wrap k (M.quo x y)))
 | .rem => (M.eq y 0 → False) ∧ K (.pv [] (.int k) (M.rem x y))
 | .and => K (.pv [] (.int k) (M.bit .and k x y))
 | .or => K (.pv [] (.int k) (M.bit .or k x y))
 | .xor => K (.pv [] (.int k) (M.bit .xor k x y))
 | .andNot => K (.pv [] (.int k) (M.bit .andNot k x y))
 | op => match cmp M op x y with | some b => K (.pv [] .bool b) | none => False
def bin (op : BinOp) (a b : SV) (K : SV → Prop) : Prop :=
 match a, b with
 | .pv _ (.int k) x, .pv _ (.int j) y => match op with
  | .shl => M.le 0 y ∧ K (.pv [] (.int k) (M.shl k x y))
  | .shr => M.le 0 y ∧ K (.pv [] (.int k) (M.shr k x y))
  | op => if k = j then intBin M op k x y K else False
 | .pv _ .str x, .pv _ .str y => match op with
  | .add => M.sRoom x y ∧ K (.pv [] .str (M.sApp x y))
  | .eql => K (.pv [] .bool (M.sEq x y))
  | .neq => K (.pv [] .bool (M.not (M.sEq x y)))
  | .lss => K (.pv [] .bool (M.sLt x y))
  | .geq => K (.pv [] .bool (M.not (M.sLt x y)))
  | .gtr => K (.pv [] .bool (M.not (M.or (M.sLt x y) (M.sEq x y))))
  | .leq => K (.pv [] .bool (M.or (M.sLt x y) (M.sEq x y)))
  | _ => False
 | _, _ => False
def svLen : SV → List (Nat × Ch) → Option Int
 | .pv _ (.sl _) xs, _ => some (M.ofN (M.len xs))
 | .pv _ .str s, _ => some (M.sLen s)
 | .nils, _ => some 0
 | .ref r, R => match look r R with
  | some (.row _ _ xs) => some (M.ofN (M.len xs))
  | _ => none
 | _, _ => none
end

/-! ### calls -/
@[reducible] def DP : List (Bool × Nat × Ty) → Type
 | [] => Unit
 | p :: l => p.2.2.den × DP l
@[reducible] def DR : List (Nat × Ty) → Type
 | [] => Unit
 | p :: l => p.2.den × DR l
/-- What a call of a Go function is known to do: of each parameter whether it is written (true), how many levels of rows are handed over, its form; of each result the levels that it owns, its form. -/
structure Con0 where
 ps : List (Bool × Nat × Ty)
 rs : List (Nat × Ty)
 pre : DP ps → Prop
 post : DP ps → DR rs → DP ps → Prop
/-- With the package's variables that are read. -/
structure Con extends Con0 where
 gl : List (Nat × Value)
def Con.of (c : Con0) : Con := { c with gl := [] }
def WFr : (rs : List (Nat × Ty)) → DR rs → Prop
 | [], _ => True
 | p :: rs, y => WF p.2 y.1 ∧ WFr rs y.2
/-- what is written -/
def WFo : (ps : List (Bool × Nat × Ty)) → DP ps → Prop
 | [], _ => True
 | p :: ps, x => (match p.1, p.2.1 with | true, _ + 1 => WF p.2.2 x.1 | _, _ => True) ∧ WFo ps x.2
def WFp : (ps : List (Bool × Nat × Ty)) → DP ps → Prop
 | [], _ => True
 | p :: ps, x => WF p.2.2 x.1 ∧ WFp ps x.2
/-- n levels are all that there is. -/
def deepOk : Nat → Ty → Bool
 | n, .pair a b => deepOk n a && deepOk n b
 | 0, .sl _ => false
 | n + 1, .sl e => deepOk n e
 | 0, .ptr _ => false
 | n + 1, .ptr e => deepOk n e
 | 0, .mp _ _ => false
 | _ + 1, .mp k v => !k.hasSl && !v.hasSl
 | _, .arr _ e => !e.hasSl
 | n, .ialt _ a r => deepOk n a && deepOk n r
 | _, _ => true
/-- Forms whose rows at n levels become roots. -/
def rootsOk : Nat → Ty → Bool
 | 0, _ => true
 | n, .pair a b => rootsOk n a && rootsOk n b
 | n + 1, .ialt _ a r => rootsOk (n + 1) a && rootsOk (n + 1) r && isI r
 | n + 1, .ptr _ => n == 0
 | _ + 1, .arr _ e => !e.hasSl
 | _, _ => true
/-- The arguments as data: what is read out of which roots, which roots are handed over for good, which are written. -/
def argsD (R : List (Nat × Ch)) : (ps : List (Bool × Nat × Ty)) → List SV → Option (DP ps × List Nat × List Nat × List Nat)
 | [], [] => some ((), [], [], [])
 | (io, n, t) :: ps, v :: vs => match n with
  | 0 => match den0 R t v, argsD R ps vs with
   | some y, some q => some ((y.1, q.1), y.2 ++ q.2.1, q.2.2.1, q.2.2.2)
   | _, _ => none
  | n + 1 => match denN R (n + 1) t v, argsD R ps vs with
   | some y, some q => match io with
    | true => some ((y.1, q.1), q.2.1, q.2.2.1, y.2 ++ q.2.2.2)
    | false => some ((y.1, q.1), q.2.1, y.2 ++ q.2.2.1, q.2.2.2)
   | _, _ => none
 | _, _ => none
/-- The roots' new contents. -/
def back (n : Nat) : (t : Ty) → SV → t.den → List (Nat × Ch) → List (Nat × Ch)
 | .sl e, .ref r, xs, R => putL r (.row (n - 1) e xs) R
 | .pair a b, .consA u v, x, R => back n b v x.2 (back n a u x.1 R)
 | .ptr e, .ad r _ _ _, x, R => match x with
  | some y => putL r (.box (svD e y)) R
  | none => R
 | _, _, _, R => R
def backs : (ps : List (Bool × Nat × Ty)) → List SV → DP ps → List (Nat × Ch) → List (Nat × Ch)
 | (io, n, t) :: ps, v :: vs, x, R => match io, n with
  | true, m + 1 => backs ps vs x.2 (back (m + 1) t v x.1 R)
  | _, _ => backs ps vs x.2 R
 | _, _, _, R => R
def dels {α : Type} : List Nat → List (Nat × α) → List (Nat × α)
 | [], R => R
 | r :: l, R => dels l (del r R)
def nodupB : List Nat → Bool
 | [] => true
 | r :: l => !mem r l && nodupB l
def apartB : List Nat → List Nat → Bool
 | [], _ => true
 | r :: l, m => !mem r m && apartB l m
def killL : List Nat → SV → SV
 | [], v => v
 | r :: l, v => killL l (kill r v)
def killDL : List Nat → SV → SV
 | [], v => v
 | r :: l, v => killDL l (killD r v)
/-- A result: the state, and its new roots (ids above all old ones). -/
def resV (dep : List Nat) (n : Nat) : (t : Ty) → t.den → List Nat → List (Nat × Ch) → SV × List Nat × List (Nat × Ch)
 | .sl e, xs, ids, N => match n with
  | 0 => (.pv dep (.sl e) xs, ids, N)
  | m + 1 => match ids with
   | r :: ids => (.ref r, ids, (r, .row m e xs) :: N)
   | [] => (.hole 1, ids, N)
 | .pair a b, x, ids, N =>
  let p := resV dep n a x.1 ids N
  let q := resV dep n b x.2 p.2.1 p.2.2
  (.consA p.1 q.1, q.2.1, q.2.2)
 | .unit, _, ids, N => (.nilA, ids, N)
 | .mp k v, x, ids, N => match n with
  | 0 => (.pv dep (.mp k v) x, ids, N)
  | _ + 1 => match x with
   | none => (.nilM, ids, N)
   | some xs => match ids with
    | r :: ids => (.ref r, ids, (r, .mp k v xs) :: N)
    | [] => (.hole 1, ids, N)
 | .ptr e, x, ids, N => match n with
  | 0 => (.pv dep (.ptr e) x, ids, N)
  | _ + 1 => match x with
   | none => (.nilP, ids, N)
   | some y => match ids with
    | r :: ids => (.ad r e 0 [], ids, (r, .box (svD e y)) :: N)
    | [] => (.hole 1, ids, N)
 | .arr m e, x, ids, N => (.pv dep (.arr m e) x, ids, N)
 | .inil, _, ids, N => (.nilI, ids, N)
 | .ialt t a r, x, ids, N => match x with
  | .inl y => let p := resV dep n a y ids N; (.ifs t a p.1, p.2.1, p.2.2)
  | .inr y => if isI r then resV dep n r y ids N else (.hole 1, ids, N)
 | t, x, ids, N => (.pv [] t x, ids, N)
def resT (dep : List Nat) : (rs : List (Nat × Ty)) → DR rs → List Nat → List (Nat × Ch) → SV × List Nat × List (Nat × Ch)
 | [], _, ids, N => (.nilT, ids, N)
 | (n, t) :: rs, y, ids, N =>
  let p := resV dep n t y.1 ids N
  let q := resT dep rs y.2 p.2.1 p.2.2
  (.consT p.1 q.1, q.2.1, q.2.2)
def res1 (dep : List Nat) : (rs : List (Nat × Ty)) → DR rs → List Nat → SV × List Nat × List (Nat × Ch)
 | [(n, t)], y, ids => resV dep n t y.1 ids []
 | rs, y, ids => resT dep rs y ids []
def slots : (t : Ty) → t.den → Nat
 | .pair a b, x => slots a x.1 + slots b x.2
 | .sl _, _ => 1
 | .mp _ _, x => match x with | none => 0 | some _ => 1
 | .ptr _, x => match x with | none => 0 | some _ => 1
 | .ialt _ a r, x => match x with | .inl y => slots a y | .inr y => if isI r then slots r y else 0
 | _, _ => 0
/-- how many roots the results want -/
def wants : (rs : List (Nat × Ty)) → DR rs → Nat
 | [], _ => 0
 | (n, t) :: l, y => (match n with | 0 => 0 | _ + 1 => slots t y.1) + wants l y.2
/-- n names that are no root's -/
def freshL : Nat → Nat → List (Nat × Ch) → Nat → List Nat
 | 0, _, _, _ => []
 | f + 1, k, R, n => match n with
  | 0 => []
  | m + 1 => if has k R then freshL f (k + 1) R (m + 1) else k :: freshL f (k + 1) R m
def rsOk (dep : List Nat) : List (Nat × Ty) → Bool
 | [] => true
 | (n, t) :: l => (n == 0 || isD dep || deepOk n t) && rootsOk n t && rsOk dep l
/-- Forms whose written rows stay where they are. -/
def stays (n : Nat) : Ty → Bool
 | .pair a b => stays n a && stays n b
 | .sl _ => true
 | .ptr _ => n == 1
 | t => !t.hasSl
def psOk (dep : List Nat) : List (Bool × Nat × Ty) → Bool
 | [] => true
 | (io, n, t) :: l => (!io || n == 0 || ((isD dep || deepOk n t) && stays n t)) && psOk dep l
def findGl : List (Nat × Ch) → List (Nat × Value)
 | [] => []
 | (_, .glob g) :: l => g ++ findGl l
 | _ :: l => findGl l
def subGl : List (Nat × Value) → List (Nat × Value) → Prop
 | [], _ => True
 | p :: l, g => look p.1 g = some p.2 ∧ subGl l g
def opCall (Γ : Ctx) (d : Option Nat) (K : Ctx → Prop) (c : Con) (vs : List SV) : Prop :=
 match argsD Γ.roots c.ps vs with
 | none => False
 | some q =>
  let dep := q.2.1
  let gone := q.2.2.1
  let io := q.2.2.2
  if nodupB (gone ++ io) = true ∧ apartB dep (gone ++ io) = true ∧ rsOk dep c.rs = true ∧ psOk dep c.ps = true then
   subGl c.gl (findGl Γ.roots) ∧ (True → c.pre q.1) ∧ ∀ y x', c.post q.1 y x' → WFr c.rs y → WFo c.ps x' →
    let ids := freshL (Γ.roots.length + wants c.rs y) 0 Γ.roots (wants c.rs y)
    if ids.length = wants c.rs y ∧ nodupB ids = true ∧ apartB ids (Γ.roots.map (·.1)) = true then
     let Γ1 := Γ.map (fun v => killL ids (killL gone (killDL io v)))
     let p := res1 dep c.rs y ids
     let R := dels gone (backs c.ps vs x' Γ1.roots)
     Ctx.on ⟨Γ1.nt, Γ1.slots, p.2.2 ++ R, Γ1.anch⟩ d p.1 K
    else False
  else False
end Go.Proofs.YtmjeghlfmhbjdaaDoor.Eng

/- The engine, third part: what the machine's state says of a frame and a world (Sim), and how that is kept. No condition. -/
namespace Go.Proofs.YtmjeghlfmhbjdaaDoor.Eng
open Go.RowKit
set_option linter.unusedVariables false
set_option linter.unusedSimpArgs false

def baseA : Value → Option (Nat × Nat)
 | .slice (some ⟨b, o, none⟩) _ _ => some (b, o)
 | .pointer (some ⟨b, o, none⟩) => some (b, o)
 | _ => none
/-- The world has changed in no block but those of O, and new ones. -/
structure Frm (O : List Nat) (w w' : World) : Prop where
 os : w'.os = w.os
 tape : w'.tape = w.tape
 output : w'.output = w.output
 size : w.heap.size ≤ w'.heap.size
 block : ∀ k, k < w.heap.size → k ∉ O → w'.heap[k]? = w.heap[k]?
theorem Frm.refl (O : List Nat) (w : World) : Frm O w w := ⟨rfl, rfl, rfl, Nat.le_refl _, fun _ _ _ => rfl⟩
theorem Frm.below {w w' : World} (h : Frm [] w w') : Below w.heap.size w w' := ⟨h.os, h.tape, h.output, h.size, fun k hk => h.block k hk (by simp)⟩

/-- The package's variables hold these values. -/
def GOk (h : Hp) (Z : Nat → Prop) (l : List (Nat × Value)) : Prop := ∀ p ∈ l, Z p.1 ∧ ∃ arr ty fz, h p.1 = some (.cells arr ty fz) ∧ arr[0]? = some p.2 ∧ one p.2 = true ∧ ∀ u a, p.2 = .iface u (.pointer (some a)) → Z a.block ∧ ∃ arr ty, h a.block = some (.cells arr ty (0, 0))
section
variable (h : Hp) (Zd : List Nat → Nat → Prop) (β : Nat → Value)
def SVc : SV → List Value → Prop
 | .hole n, cs => cs.length = n
 | .pv d t x, cs => Own h (Zd d) t 0 [] cs x
 | .nils, cs => cs = [.slice none 0 0]
 | .ref r, cs => cs = [β r]
 | .ad r e i p, cs => ∃ b o, baseA (β r) = some (b, o) ∧ cs = [.pointer (some ⟨b, o + i.toNat * e.sz + offAt e p, none⟩)]
 | .fad d e xs i p, cs => 0 ≤ i ∧ i < xs.length ∧ ∃ b o arr ty fz, Zd d b ∧ h b = some (.cells arr ty fz) ∧ o + xs.length * e.sz ≤ arr.size ∧
   (∀ j x, xs[j]? = some x → Own h (Zd d) e 0 [] (seg arr.toList (o + j * e.sz) e.sz) x) ∧ cs = [.pointer (some ⟨b, o + i.toNat * e.sz + offAt e p, none⟩)]
 | .nilA, cs => cs = []
 | .consA a b, cs => ∃ c1 c2, cs = c1 ++ c2 ∧ SVc a c1 ∧ SVc b c2
 | .nilT, _ => False
 | .consT _ _, _ => False
 | .nilI, cs => cs = [.nilIface]
 | .nilP, cs => cs = [.pointer none]
 | .nilM, cs => cs = [.map none]
 | .arp r e n, cs => ∃ b, β r = .slice (some ⟨b, 0, none⟩) n n ∧ cs = [.pointer (some ⟨b, 0, none⟩)]
 | .vw r e lo hi, cs => ∃ b o len c, β r = .slice (some ⟨b, o, none⟩) len c ∧ 0 ≤ lo ∧ lo ≤ hi ∧ hi ≤ len ∧ len ≤ c ∧ cs = [.slice (some ⟨b, o + lo.toNat * e.sz, none⟩) (hi.toNat - lo.toNat) (c - lo.toNat)]
 | .ifs t a v, cs => ∃ cs', cs = [.iface t (valOf a.agg cs')] ∧ SVc v cs'
 | .gl g, cs => cs = [.pointer (some ⟨g, 0, none⟩)]
 | .fn f, cs => cs = [.func (.func f) #[] #[]]
def Slot1 (v : SV) (x : Value) : Prop := (∃ n, v = .hole n) ∨ ∃ cs, SVc h Zd β v cs ∧ x = valOf v.isAgg cs
def TupR : SV → List Value → Prop
 | .nilT, l => l = []
 | .consT a b, l => ∃ x l', l = x :: l' ∧ Slot1 h Zd β a x ∧ TupR b l'
 | _, _ => False
def SlotR (v : SV) (x : Value) : Prop := (v.tup = true ∧ ∃ l : List Value, x = .tuple l.toArray ∧ TupR h Zd β v l) ∨ (v.tup = false ∧ Slot1 h Zd β v x)
def RootR (B : List Nat) (r : Nat) : Ch → Prop
 | .row lvl e xs => Own h (Zd []) (.sl e) (lvl + 1) B [β r] xs
 | .box v => ∃ b cs ty, β r = .pointer (some ⟨b, 0, none⟩) ∧ B = [b] ∧ h b = some (.cells cs.toArray ty (0, 0)) ∧ SVc h Zd β v cs
 | .iter s p => ∃ b n, β r = .pointer (some ⟨b, 0, none⟩) ∧ B = [b] ∧ h b = some (.stringIter s n) ∧ p = (n : Int) ∧ s.size ≤ maxL
 | .mp k v xs => Own h (Zd []) (.mp k v) 1 B [β r] (some xs)
 | .glob l => B = [] ∧ GOk h (Zd []) l
def AnchR : List SV → List Value → Prop
 | [], [] => True
 | v :: l, x :: m => SlotR h Zd β v x ∧ AnchR l m
 | _, _ => False
end

def allO (F : Nat → List Nat) (R : List (Nat × Ch)) : List Nat := (R.map fun p => F p.1).flatten
def ZdOf (Bb : Nat → Prop) (F : Nat → List Nat) (R : List (Nat × Ch)) (d : List Nat) (b : Nat) : Prop := (b ∉ allO F R ∧ Bb b) ∨ ∃ r ∈ d, r ∈ R.map (·.1) ∧ b ∈ F r

structure Sim (Bb : Nat → Prop) (w0 : World) (O0 : List Nat) (av : List Value) (Γ : Ctx) (a : Act) (w : World) (β : Nat → Value) (F : Nat → List Nat) : Prop where
 size : a.tmps.size = Γ.nt
 defers : a.defers = []
 slots : ∀ n v, (n, v) ∈ Γ.slots → ∃ x, a.tmps[n]? = some x ∧ SlotR (hp w) (ZdOf Bb F Γ.roots) β v x
 roots : ∀ r c, (r, c) ∈ Γ.roots → RootR (hp w) (ZdOf Bb F Γ.roots) β (F r) r c
 anch : AnchR (hp w) (ZdOf Bb F Γ.roots) β Γ.anch av
 ids : (Γ.roots.map (·.1)).Nodup
 nodup : (allO F Γ.roots).Nodup
 own : ∀ b ∈ allO F Γ.roots, b < w.heap.size ∧ (b ∈ O0 ∨ w0.heap.size ≤ b)
 frm : Frm O0 w0 w
 bone : ∀ q, one (β q) = true
 base : ∀ b, (b ∈ O0 ∨ w0.heap.size ≤ b) → Bb b

/-- All that v reads out of, all that it names. -/
def Fit (D : List Nat → Prop) (R : Nat → Prop) : SV → Prop
 | .pv d t x => D d
 | .ref r => R r
 | .ad r _ _ _ => R r
 | .fad d _ _ _ _ => D d
 | .consA a b => Fit D R a ∧ Fit D R b
 | .consT a b => Fit D R a ∧ Fit D R b
 | .arp r _ _ => R r
 | .vw r _ _ _ => R r
 | .ifs _ _ v => Fit D R v
 | _ => True

section
variable {h h' : Hp} {Zd Zd' : List Nat → Nat → Prop} {β β' : Nat → Value} {D : List Nat → Prop} {R : Nat → Prop}
theorem SVc.len : ∀ {v : SV} {cs : List Value}, SVc h Zd β v cs → cs.length = v.sz
 | .hole n, cs, o => o
 | .pv d t x, cs, o => Own.len (show Own h (Zd d) t 0 [] cs x from o)
 | .nils, cs, o => by rw [o]; rfl
 | .ref r, cs, o => by rw [o]; rfl
 | .ad r e i p, cs, ⟨_, _, _, o⟩ => by rw [o]; rfl
 | .fad d e xs i p, cs, ⟨_, _, _, _, _, _, _, _, _, _, _, o⟩ => by rw [o]; rfl
 | .nilA, cs, o => by rw [o]; rfl
 | .consA a b, cs, ⟨c1, c2, e, o1, o2⟩ => by rw [e, List.length_append, SVc.len o1, SVc.len o2]; rfl
 | .nilT, _, o => o.elim
 | .consT _ _, _, o => o.elim
 | .nilI, cs, o => by rw [o]; rfl
 | .nilP, cs, o => by rw [o]; rfl
 | .nilM, cs, o => by rw [o]; rfl
 | .arp _ _ _, cs, ⟨_, _, o⟩ => by rw [o]; rfl
 | .vw _ _ _ _, cs, ⟨_, _, _, _, _, _, _, _, _, o⟩ => by rw [o]; rfl
 | .ifs _ _ _, cs, ⟨_, o, _⟩ => by rw [o]; rfl
 | .gl _, cs, o => by rw [o]; rfl
 | .fn _, cs, o => by rw [o]; rfl
theorem SVc.mono (hz : ∀ d, D d → ∀ b, Zd d b → (h b).isSome → h' b = h b ∧ Zd' d b) (hβ : ∀ q, R q → β' q = β q) : ∀ {v : SV} {cs : List Value}, Fit D R v → SVc h Zd β v cs → SVc h' Zd' β' v cs
 | .hole n, cs, _, o => o
 | .pv d t x, cs, f, o => Own.mono (hz d f) (fun _ m => by cases m) (show Own h (Zd d) t 0 [] cs x from o)
 | .nils, cs, _, o => o
 | .ref r, cs, f, o => by show cs = [β' r]; rw [hβ r f]; exact o
 | .ad r e i p, cs, f, o => by show ∃ b o, baseA (β' r) = some (b, o) ∧ _; rw [hβ r f]; exact o
 | .fad d e xs i p, cs, f, ⟨q1, q2, b, o, arr, ty, fz, z, hb, hl, hr, hc⟩ => by
   obtain ⟨z1, z2⟩ := hz d f b z (by rw [hb]; rfl)
   exact ⟨q1, q2, b, o, arr, ty, fz, z2, z1.trans hb, hl, fun j x hx => (hr j x hx).mono (hz d f) (fun _ m => by cases m), hc⟩
 | .nilA, cs, _, o => o
 | .consA a b, cs, f, ⟨c1, c2, e, o1, o2⟩ => ⟨c1, c2, e, SVc.mono hz hβ f.1 o1, SVc.mono hz hβ f.2 o2⟩
 | .nilT, _, _, o => o.elim
 | .consT _ _, _, _, o => o.elim
 | .nilI, cs, _, o => o
 | .nilP, cs, _, o => o
 | .nilM, cs, _, o => o
 | .arp r _ _, cs, f, ⟨b, o1, o2⟩ => ⟨b, (hβ r f).trans o1, o2⟩
 | .vw r _ _ _, cs, f, ⟨b, o, len, c, o1, o2⟩ => ⟨b, o, len, c, (hβ r f).trans o1, o2⟩
 | .ifs _ _ _, cs, f, ⟨cs', e, o⟩ => ⟨cs', e, SVc.mono hz hβ f o⟩
 | .gl _, cs, _, o => o
 | .fn _, cs, _, o => o
theorem Slot1.mono (hz : ∀ d, D d → ∀ b, Zd d b → (h b).isSome → h' b = h b ∧ Zd' d b) (hβ : ∀ q, R q → β' q = β q) {v : SV} {x : Value} (f : Fit D R v) (o : Slot1 h Zd β v x) : Slot1 h' Zd' β' v x :=
 o.imp id fun ⟨cs, o1, o2⟩ => ⟨cs, SVc.mono hz hβ f o1, o2⟩
theorem TupR.mono (hz : ∀ d, D d → ∀ b, Zd d b → (h b).isSome → h' b = h b ∧ Zd' d b) (hβ : ∀ q, R q → β' q = β q) : ∀ {v : SV} {l : List Value}, Fit D R v → TupR h Zd β v l → TupR h' Zd' β' v l
 | .nilT, l, _, o => o
 | .consT a b, l, f, ⟨x, l', e, o1, o2⟩ => ⟨x, l', e, Slot1.mono hz hβ f.1 o1, TupR.mono hz hβ f.2 o2⟩
 | .hole n, l, _, o => o.elim | .pv _ _ _, l, _, o => o.elim | .nils, l, _, o => o.elim | .ref _, l, _, o => o.elim | .ad _ _ _ _, l, _, o => o.elim | .fad _ _ _ _ _, l, _, o => o.elim | .nilA, l, _, o => o.elim | .consA _ _, l, _, o => o.elim | .nilI, l, _, o => o.elim | .nilP, l, _, o => o.elim | .nilM, l, _, o => o.elim | .arp _ _ _, l, _, o => o.elim | .vw _ _ _ _, l, _, o => o.elim | .ifs _ _ _, l, _, o => o.elim | .gl _, l, _, o => o.elim | .fn _, l, _, o => o.elim
theorem SlotR.mono (hz : ∀ d, D d → ∀ b, Zd d b → (h b).isSome → h' b = h b ∧ Zd' d b) (hβ : ∀ q, R q → β' q = β q) {v : SV} {x : Value} (f : Fit D R v) (o : SlotR h Zd β v x) : SlotR h' Zd' β' v x :=
 o.imp (fun ⟨e, l, e', o⟩ => ⟨e, l, e', TupR.mono hz hβ f o⟩) fun ⟨e, o⟩ => ⟨e, Slot1.mono hz hβ f o⟩
theorem AnchR.mono (hz : ∀ d, D d → ∀ b, Zd d b → (h b).isSome → h' b = h b ∧ Zd' d b) (hβ : ∀ q, R q → β' q = β q) : ∀ {l : List SV} {m : List Value}, (∀ v ∈ l, Fit D R v) → AnchR h Zd β l m → AnchR h' Zd' β' l m
 | [], [], _, _ => trivial
 | v :: l, x :: m, f, o => ⟨SlotR.mono hz hβ (f v (by simp)) o.1, AnchR.mono hz hβ (fun u hu => f u (by simp [hu])) o.2⟩
 | [], _ :: _, _, o => o
 | _ :: _, [], _, o => o

theorem mem_false {n : Nat} : ∀ {l : List Nat}, mem n l = false → n ∉ l
 | [], _ => by simp
 | m :: l, h => by
  unfold mem at h
  split at h
  ·cases h
  ·rename_i hm
   simp only [List.mem_cons, not_or]
   exact ⟨fun e => hm e.symm, mem_false h⟩
theorem SVc.kill (r : Nat) : ∀ {v : SV} {cs : List Value}, SVc h Zd β v cs → SVc h Zd β (kill r v) cs
 | .hole n, cs, o => o
 | .pv d t x, cs, o => by
   unfold Eng.kill; split
   ·exact SVc.len (v := .pv d t x) o
   ·exact o
 | .nils, cs, o => o
 | .ref q, cs, o => by
   unfold Eng.kill; split
   ·exact SVc.len (by assumption)
   ·exact o
 | .ad q e i p, cs, o => by
   unfold Eng.kill; split
   ·exact SVc.len (by assumption)
   ·exact o
 | .fad d e xs i p, cs, o => by
   unfold Eng.kill; split
   ·exact SVc.len (by assumption)
   ·exact o
 | .nilA, cs, o => o
 | .consA a b, cs, ⟨c1, c2, e, o1, o2⟩ => ⟨c1, c2, e, SVc.kill r o1, SVc.kill r o2⟩
 | .nilT, _, o => o.elim
 | .consT _ _, _, o => o.elim
 | .nilI, _, o => o | .nilP, _, o => o | .nilM, _, o => o | .gl _, _, o => o | .fn _, _, o => o
 | .arp q e n, cs, o => by
   unfold Eng.kill; split
   ·exact SVc.len (by assumption)
   ·exact o
 | .vw q e l m, cs, o => by
   unfold Eng.kill; split
   ·exact SVc.len (by assumption)
   ·exact o
 | .ifs _ _ _, cs, ⟨cs', e, o⟩ => ⟨cs', e, SVc.kill r o⟩
theorem SVc.killD (r : Nat) : ∀ {v : SV} {cs : List Value}, SVc h Zd β v cs → SVc h Zd β (killD r v) cs
 | .hole n, cs, o => o
 | .pv d t x, cs, o => by
   unfold Eng.killD; split
   ·exact SVc.len (v := .pv d t x) o
   ·exact o
 | .nils, cs, o => o
 | .ref q, cs, o => o
 | .ad q e i p, cs, o => o
 | .fad d e xs i p, cs, o => by
   unfold Eng.killD; split
   ·exact SVc.len (by assumption)
   ·exact o
 | .nilA, cs, o => o
 | .consA a b, cs, ⟨c1, c2, e, o1, o2⟩ => ⟨c1, c2, e, SVc.killD r o1, SVc.killD r o2⟩
 | .nilT, _, o => o.elim
 | .consT _ _, _, o => o.elim
 | .nilI, _, o => o | .nilP, _, o => o | .nilM, _, o => o | .gl _, _, o => o | .fn _, _, o => o
 | .arp _ _ _, _, o => o | .vw _ _ _ _, _, o => o
 | .ifs _ _ _, cs, ⟨cs', e, o⟩ => ⟨cs', e, SVc.killD r o⟩
/-- What a change of states (kill, killD) must do. -/
structure Soft (f : SV → SV) : Prop where
 c : ∀ {h : Hp} {Zd : List Nat → Nat → Prop} {β : Nat → Value} {v : SV} {cs : List Value}, SVc h Zd β v cs → SVc h Zd β (f v) cs
 agg : ∀ v, (∃ n, f v = .hole n) ∨ (f v).isAgg = v.isAgg
 hole : ∀ n, f (.hole n) = .hole n
 nilT : f .nilT = .nilT
 consT : ∀ a b, f (.consT a b) = .consT (f a) (f b)
 un : ∀ v, (f v).tup = v.tup
theorem soft_kill (r : Nat) : Soft (Eng.kill r) where
 c o := SVc.kill r o
 agg v := by cases v <;> simp only [Eng.kill] <;> (try split) <;> simp [SV.isAgg]
 hole n := rfl
 nilT := rfl
 consT a b := rfl
 un v := by cases v <;> simp only [Eng.kill] <;> (try split) <;> rfl
theorem soft_killD (r : Nat) : Soft (Eng.killD r) where
 c o := SVc.killD r o
 agg v := by cases v <;> simp only [Eng.killD] <;> (try split) <;> simp [SV.isAgg]
 hole n := rfl
 nilT := rfl
 consT a b := rfl
 un v := by cases v <;> simp only [Eng.killD] <;> (try split) <;> rfl
theorem Slot1.soft {f : SV → SV} (s : Soft f) {v : SV} {x : Value} (o : Slot1 h Zd β v x) : Slot1 h Zd β (f v) x := by
 rcases o with ⟨n, rfl⟩ | ⟨cs, o1, o2⟩
 ·exact .inl ⟨n, s.hole n⟩
 ·rcases s.agg v with ha | ha
  ·exact .inl ha
  ·exact .inr ⟨cs, s.c o1, by rw [ha]; exact o2⟩
theorem TupR.soft {f : SV → SV} (s : Soft f) : ∀ {v : SV} {l : List Value}, TupR h Zd β v l → TupR h Zd β (f v) l
 | .nilT, l, o => by rw [s.nilT]; exact o
 | .consT a b, l, ⟨x, l', e, o1, o2⟩ => by rw [s.consT]; exact ⟨x, l', e, Slot1.soft s o1, TupR.soft s o2⟩
 | .hole n, l, o => o.elim | .pv _ _ _, l, o => o.elim | .nils, l, o => o.elim | .ref _, l, o => o.elim | .ad _ _ _ _, l, o => o.elim | .fad _ _ _ _ _, l, o => o.elim | .nilA, l, o => o.elim | .consA _ _, l, o => o.elim | .nilI, l, o => o.elim | .nilP, l, o => o.elim | .nilM, l, o => o.elim | .arp _ _ _, l, o => o.elim | .vw _ _ _ _, l, o => o.elim | .ifs _ _ _, l, o => o.elim | .gl _, l, o => o.elim | .fn _, l, o => o.elim
theorem SlotR.soft {f : SV → SV} (s : Soft f) {v : SV} {x : Value} (o : SlotR h Zd β v x) : SlotR h Zd β (f v) x := by
 unfold SlotR
 rw [s.un]
 exact o.imp (fun ⟨e, l, e', o⟩ => ⟨e, l, e', TupR.soft s o⟩) fun ⟨e, o⟩ => ⟨e, Slot1.soft s o⟩
theorem AnchR.soft {f : SV → SV} (s : Soft f) : ∀ {l : List SV} {m : List Value}, AnchR h Zd β l m → AnchR h Zd β (mapA f l) m
 | [], [], _ => trivial
 | v :: l, x :: m, o => ⟨SlotR.soft s o.1, AnchR.soft s o.2⟩
 | [], _ :: _, o => o
 | _ :: _, [], o => o
theorem mem_mapS {f : SV → SV} {n : Nat} {v : SV} : ∀ {l : List (Nat × SV)}, (n, v) ∈ mapS f l → ∃ u, (n, u) ∈ l ∧ v = f u
 | [], hm => by cases hm
 | (m, u) :: l, hm => by
  simp only [mapS, List.mem_cons, Prod.mk.injEq] at hm
  rcases hm with ⟨rfl, rfl⟩ | hm
  ·exact ⟨u, by simp, rfl⟩
  ·obtain ⟨u', h1, h2⟩ := mem_mapS hm; exact ⟨u', by simp [h1], h2⟩
theorem mem_mapC {f : SV → SV} {n : Nat} {c : Ch} : ∀ {l : List (Nat × Ch)}, (n, c) ∈ mapC f l → ((n, c) ∈ l ∧ ∀ v, c ≠ .box v) ∨ ∃ u, (n, .box u) ∈ l ∧ c = .box (f u)
 | [], hm => by cases hm
 | (m, .box u) :: l, hm => by
  simp only [mapC, List.mem_cons, Prod.mk.injEq] at hm
  rcases hm with ⟨rfl, rfl⟩ | hm
  ·exact .inr ⟨u, by simp, rfl⟩
  ·rcases mem_mapC hm with ⟨h1, h2⟩ | ⟨u', h1, h2⟩
   ·exact .inl ⟨by simp [h1], h2⟩
   ·exact .inr ⟨u', by simp [h1], h2⟩
 | (m, .row a b d) :: l, hm => by
  simp only [mapC, List.mem_cons, Prod.mk.injEq] at hm
  rcases hm with ⟨rfl, rfl⟩ | hm
  ·exact .inl ⟨by simp, fun v h => by cases h⟩
  ·rcases mem_mapC hm with ⟨h1, h2⟩ | ⟨u', h1, h2⟩
   ·exact .inl ⟨by simp [h1], h2⟩
   ·exact .inr ⟨u', by simp [h1], h2⟩
 | (m, .iter a b) :: l, hm => by
  simp only [mapC, List.mem_cons, Prod.mk.injEq] at hm
  rcases hm with ⟨rfl, rfl⟩ | hm
  ·exact .inl ⟨by simp, fun v h => by cases h⟩
  ·rcases mem_mapC hm with ⟨h1, h2⟩ | ⟨u', h1, h2⟩
   ·exact .inl ⟨by simp [h1], h2⟩
   ·exact .inr ⟨u', by simp [h1], h2⟩
 | (m, .mp a b d) :: l, hm => by
  simp only [mapC, List.mem_cons, Prod.mk.injEq] at hm
  rcases hm with ⟨rfl, rfl⟩ | hm
  ·exact .inl ⟨by simp, fun v h => by cases h⟩
  ·rcases mem_mapC hm with ⟨h1, h2⟩ | ⟨u', h1, h2⟩
   ·exact .inl ⟨by simp [h1], h2⟩
   ·exact .inr ⟨u', by simp [h1], h2⟩
 | (m, .glob a) :: l, hm => by
  simp only [mapC, List.mem_cons, Prod.mk.injEq] at hm
  rcases hm with ⟨rfl, rfl⟩ | hm
  ·exact .inl ⟨by simp, fun v h => by cases h⟩
  ·rcases mem_mapC hm with ⟨h1, h2⟩ | ⟨u', h1, h2⟩
   ·exact .inl ⟨by simp [h1], h2⟩
   ·exact .inr ⟨u', by simp [h1], h2⟩
theorem mapC_ids (f : SV → SV) : ∀ l : List (Nat × Ch), (mapC f l).map (·.1) = l.map (·.1)
 | [] => rfl
 | (m, .box u) :: l => by simp [mapC, mapC_ids f l]
 | (m, .row a b d) :: l => by simp [mapC, mapC_ids f l]
 | (m, .iter a b) :: l => by simp [mapC, mapC_ids f l]
 | (m, .mp a b d) :: l => by simp [mapC, mapC_ids f l]
 | (m, .glob a) :: l => by simp [mapC, mapC_ids f l]
theorem allO_ids {F : Nat → List Nat} {l m : List (Nat × Ch)} (e : l.map (·.1) = m.map (·.1)) : allO F l = allO F m := by
 unfold allO
 have : ∀ l : List (Nat × Ch), l.map (fun p => F p.1) = (l.map (·.1)).map F := fun l => by simp
 rw [this l, this m, e]
theorem ZdOf_ids {Bb : Nat → Prop} {F : Nat → List Nat} {l m : List (Nat × Ch)} (e : l.map (·.1) = m.map (·.1)) : ZdOf Bb F l = ZdOf Bb F m := by
 funext d b; unfold ZdOf; rw [allO_ids e, e]
theorem Sim.soft {f : SV → SV} (s : Soft f) {Bb : Nat → Prop} {w0 : World} {O0 : List Nat} {av : List Value} {Γ : Ctx} {a : Act} {w : World} {F : Nat → List Nat} (S : Sim Bb w0 O0 av Γ a w β F) : Sim Bb w0 O0 av (Γ.map f) a w β F := by
 have e : (mapC f Γ.roots).map (·.1) = Γ.roots.map (·.1) := mapC_ids f _
 constructor
 ·exact S.size
 ·exact S.defers
 ·intro n v hm
  obtain ⟨u, h1, rfl⟩ := mem_mapS hm
  obtain ⟨x, h2, h3⟩ := S.slots n u h1
  refine ⟨x, h2, ?_⟩
  show SlotR (hp w) (ZdOf Bb F (mapC f Γ.roots)) β _ x
  rw [ZdOf_ids e]; exact SlotR.soft s h3
 ·intro r c hm
  show RootR (hp w) (ZdOf Bb F (mapC f Γ.roots)) β _ r c
  rw [ZdOf_ids e]
  rcases mem_mapC hm with ⟨h1, _⟩ | ⟨u, h1, rfl⟩
  ·exact S.roots r c h1
  ·obtain ⟨b, cs, ty, h2, h3, h4, h5⟩ := S.roots r _ h1
   exact ⟨b, cs, ty, h2, h3, h4, s.c h5⟩
 ·show AnchR (hp w) (ZdOf Bb F (mapC f Γ.roots)) β (mapA f Γ.anch) av
  rw [ZdOf_ids e]; exact AnchR.soft s S.anch
 ·show ((mapC f Γ.roots).map (·.1)).Nodup
  rw [e]; exact S.ids
 ·show (allO F (mapC f Γ.roots)).Nodup
  rw [allO_ids e]; exact S.nodup
 ·show ∀ b ∈ allO F (mapC f Γ.roots), _
  rw [allO_ids e]; exact S.own
 ·exact S.frm
 ·exact S.bone
 ·exact S.base
theorem fit_kill (r : Nat) : ∀ v : SV, Fit (fun d => mem r d = false) (fun q => q ≠ r) (Eng.kill r v)
 | .hole n => trivial
 | .pv d t x => by
   unfold Eng.kill; split
   ·trivial
   ·rename_i hm; exact Bool.eq_false_iff.2 hm
 | .nils => trivial
 | .ref q => by
   unfold Eng.kill; split
   ·trivial
   ·rename_i hm; exact hm
 | .ad q e i p => by
   unfold Eng.kill; split
   ·trivial
   ·rename_i hm; exact hm
 | .fad d e xs i p => by
   unfold Eng.kill; split
   ·trivial
   ·rename_i hm; exact Bool.eq_false_iff.2 hm
 | .nilA => trivial
 | .consA a b => ⟨fit_kill r a, fit_kill r b⟩
 | .nilT => trivial
 | .consT a b => ⟨fit_kill r a, fit_kill r b⟩
 | .nilI => trivial | .nilP => trivial | .nilM => trivial | .gl _ => trivial | .fn _ => trivial
 | .arp q e n => by
   unfold Eng.kill; split
   ·trivial
   ·rename_i hm; exact hm
 | .vw q e n m => by
   unfold Eng.kill; split
   ·trivial
   ·rename_i hm; exact hm
 | .ifs _ _ v => fit_kill r v
theorem fit_killD (r : Nat) : ∀ v : SV, Fit (fun d => mem r d = false) (fun _ => True) (Eng.killD r v)
 | .hole n => trivial
 | .pv d t x => by
   unfold Eng.killD; split
   ·trivial
   ·rename_i hm; exact Bool.eq_false_iff.2 hm
 | .nils => trivial
 | .ref q => trivial
 | .ad q e i p => trivial
 | .fad d e xs i p => by
   unfold Eng.killD; split
   ·trivial
   ·rename_i hm; exact Bool.eq_false_iff.2 hm
 | .nilA => trivial
 | .consA a b => ⟨fit_killD r a, fit_killD r b⟩
 | .nilT => trivial
 | .consT a b => ⟨fit_killD r a, fit_killD r b⟩
 | .nilI => trivial | .nilP => trivial | .nilM => trivial | .gl _ => trivial | .fn _ => trivial | .arp _ _ _ => trivial | .vw _ _ _ _ => trivial
 | .ifs _ _ v => fit_killD r v
theorem fit_all : ∀ v : SV, Fit (fun _ => True) (fun _ => True) v
 | .hole n => trivial | .pv _ _ _ => trivial | .nils => trivial | .ref _ => trivial | .ad _ _ _ _ => trivial | .fad _ _ _ _ _ => trivial | .nilA => trivial | .nilT => trivial
 | .consA a b => ⟨fit_all a, fit_all b⟩
 | .consT a b => ⟨fit_all a, fit_all b⟩
 | .nilI => trivial | .nilP => trivial | .nilM => trivial | .gl _ => trivial | .fn _ => trivial | .arp _ _ _ => trivial | .vw _ _ _ _ => trivial
 | .ifs _ _ v => fit_all v
end
/-- All states in Γ fit. -/
structure FitG (D : List Nat → Prop) (R : Nat → Prop) (Γ : Ctx) : Prop where
 slots : ∀ n v, (n, v) ∈ Γ.slots → Fit D R v
 boxes : ∀ r v, (r, .box v) ∈ Γ.roots → Fit D R v
 anch : ∀ v ∈ Γ.anch, Fit D R v
theorem mem_mapA {f : SV → SV} {v : SV} : ∀ {l : List SV}, v ∈ mapA f l → ∃ u ∈ l, v = f u
 | [], hm => by cases hm
 | u :: l, hm => by
  simp only [mapA, List.mem_cons] at hm
  rcases hm with rfl | hm
  ·exact ⟨u, by simp, rfl⟩
  ·obtain ⟨u', h1, h2⟩ := mem_mapA hm; exact ⟨u', by simp [h1], h2⟩
theorem FitG.of {f : SV → SV} {D : List Nat → Prop} {R : Nat → Prop} (hf : ∀ v, Fit D R (f v)) (Γ : Ctx) : FitG D R (Γ.map f) where
 slots n v hm := by obtain ⟨u, _, rfl⟩ := mem_mapS hm; exact hf u
 boxes r v hm := by
  rcases mem_mapC hm with ⟨_, e⟩ | ⟨u, _, e⟩
  ·exact absurd rfl (e v)
  ·injection e with e; rw [e]; exact hf u
 anch v hm := by obtain ⟨u, _, rfl⟩ := mem_mapA hm; exact hf u
end Go.Proofs.YtmjeghlfmhbjdaaDoor.Eng

/- The engine, fourth part: slots, operands, types, and the change of a world. No condition. -/
namespace Go.Proofs.YtmjeghlfmhbjdaaDoor.Eng
open Go.RowKit
set_option linter.unusedVariables false
set_option linter.unusedSimpArgs false

section
variable {Bb : Nat → Prop} {w0 : World} {O0 : List Nat} {av : List Value} {Γ Γ' : Ctx} {a : Act} {w w' : World} {β β' : Nat → Value} {F F' : Nat → List Nat}
theorem look_mem {α : Type} {n : Nat} {x : α} : ∀ {l : List (Nat × α)}, look n l = some x → (n, x) ∈ l
 | [], e => by cases e
 | (m, y) :: l, e => by
  unfold look at e
  split at e
  ·rename_i hm; injection e with e; subst hm; subst e; simp
  ·exact List.mem_cons_of_mem _ (look_mem e)
theorem mem_putL {α : Type} {n m : Nat} {x y : α} : ∀ {l : List (Nat × α)}, (l.map (·.1)).Nodup → (m, y) ∈ putL n x l → (m = n ∧ y = x) ∨ ((m, y) ∈ l ∧ m ≠ n)
 | [], _, h => by simp [putL] at h; exact .inl h
 | (k, z) :: l, hn, h => by
  simp only [List.map_cons, List.nodup_cons] at hn
  unfold putL at h
  split at h
  ·rename_i hk
   rcases List.mem_cons.1 h with h | h
   ·injection h with h1 h2; exact .inl ⟨h1, h2⟩
   ·exact .inr ⟨List.mem_cons_of_mem _ h, fun hm => hn.1 (by rw [hk, ← hm]; exact List.mem_map.2 ⟨_, h, rfl⟩)⟩
  ·rename_i hk
   rcases List.mem_cons.1 h with h | h
   ·injection h with h1 h2; subst h1; subst h2; exact .inr ⟨by simp, hk⟩
   ·exact (mem_putL hn.2 h).imp id fun ⟨h, h2⟩ => ⟨List.mem_cons_of_mem _ h, h2⟩
theorem mem_del {α : Type} {n m : Nat} {y : α} : ∀ {l : List (Nat × α)}, (m, y) ∈ del n l → (m, y) ∈ l ∧ m ≠ n
 | [], h => by cases h
 | (k, z) :: l, h => by
  unfold del at h
  split at h
  ·obtain ⟨h1, h2⟩ := mem_del h; exact ⟨List.mem_cons_of_mem _ h1, h2⟩
  ·rename_i hk
   rcases List.mem_cons.1 h with h | h
   ·injection h with h1 h2; subst h1; subst h2; exact ⟨by simp, hk⟩
   ·obtain ⟨h1, h2⟩ := mem_del h; exact ⟨List.mem_cons_of_mem _ h1, h2⟩
theorem putL_ids {α : Type} {n : Nat} {x : α} : ∀ {l : List (Nat × α)}, n ∈ l.map (·.1) → (putL n x l).map (·.1) = l.map (·.1)
 | [], h => by cases h
 | (k, z) :: l, h => by
  unfold putL
  split
  ·rename_i hk; simp [hk]
  ·rename_i hk
   simp only [List.map_cons, List.mem_cons] at h ⊢
   rw [putL_ids (h.resolve_left (fun e => hk e.symm))]
theorem Sim.get (S : Sim Bb w0 O0 av Γ a w β F) (n : Nat) : SlotR (hp w) (ZdOf Bb F Γ.roots) β (Γ.get n) (a.eval (.tmp n)) := by
 unfold Ctx.get
 cases hl : look n Γ.slots with
 | none => exact .inr ⟨rfl, .inl ⟨0, rfl⟩⟩
 | some v =>
  obtain ⟨x, h1, h2⟩ := S.slots n v (look_mem hl)
  have : a.eval (.tmp n) = x := by simp [Act.eval, Array.getD_eq_getD_getElem?, h1]
  rw [this]; exact h2
theorem slot_c {h : Hp} {Zd : List Nat → Nat → Prop} {v : SV} {cs : List Value} (ht : v.tup = false) (o : SVc h Zd β v cs) : SlotR h Zd β v (valOf v.isAgg cs) := .inr ⟨ht, .inr ⟨cs, o, rfl⟩⟩
theorem ofConst_ok {h : Hp} {Zd : List Nat → Nat → Prop} (v : Value) : SlotR h Zd β (ofConst v) v := by
 have hole : ∀ x : Value, SlotR h Zd β (.hole 1) x := fun x => .inr ⟨rfl, .inl ⟨1, rfl⟩⟩
 unfold ofConst
 split
 ·split
  ·rename_i k n hk
   simp only [inKB, Bool.and_eq_true, decide_eq_true_eq] at hk
   exact slot_c (v := .pv [] (.int k) n) (cs := [.int k n]) rfl ⟨rfl, rfl, hk.1, hk.2⟩
  ·exact hole _
 ·rename_i b; exact slot_c (v := .pv [] .bool b) (cs := [.bool b]) rfl ⟨rfl, rfl⟩
 ·split
  ·rename_i s hs; exact slot_c (v := .pv [] .str s) (cs := [.string s]) rfl ⟨rfl, rfl, hs⟩
  ·exact hole _
 ·exact slot_c (v := .nils) (cs := [.slice none 0 0]) rfl rfl
 ·exact slot_c (v := .nilI) (cs := [.nilIface]) rfl rfl
 ·exact slot_c (v := .nilP) (cs := [.pointer none]) rfl rfl
 ·exact slot_c (v := .nilM) (cs := [.map none]) rfl rfl
 ·exact hole _
theorem Sim.eval (S : Sim Bb w0 O0 av Γ a w β F) (x : Operand) : SlotR (hp w) (ZdOf Bb F Γ.roots) β (Γ.eval x) (a.eval x) := by
 cases x with
 | tmp n => exact S.get n
 | const v => exact ofConst_ok v
 | global g => exact slot_c (v := .gl g) (cs := [.pointer (some ⟨g, 0, none⟩)]) rfl rfl
 | func f => exact slot_c (v := .fn f) (cs := [.func (.func f) #[] #[]]) rfl rfl
theorem Sim.put (S : Sim Bb w0 O0 av Γ a w β F) {v : SV} {x : Value} (o : SlotR (hp w) (ZdOf Bb F Γ.roots) β v x) {d : Option Nat} (e : Γ.put d v = some Γ') : Sim Bb w0 O0 av Γ' (a.put d x) w β F := by
 cases d with
 | none => simp only [Ctx.put, Option.some.injEq] at e; subst e; exact S
 | some n =>
  simp only [Ctx.put] at e
  split at e
  ·rename_i hn
   simp only [Option.some.injEq] at e; subst e
   refine ⟨by simp [Act.put, S.size], S.defers, ?_, S.roots, S.anch, S.ids, S.nodup, S.own, S.frm, S.bone, S.base⟩
   intro m u hm
   rcases List.mem_cons.1 hm with hm | hm
   ·injection hm with h1 h2; subst h1; subst h2
    exact ⟨x, by simp [Act.put, Array.getElem?_setIfInBounds, S.size, hn], o⟩
   ·obtain ⟨h1, hmn⟩ := mem_del hm
    obtain ⟨y, h2, h3⟩ := S.slots m u h1
    exact ⟨y, by simp [Act.put, Array.getElem?_setIfInBounds, Ne.symm hmn, h2], h3⟩
  ·cases e
/-- A change of the world: what fits is kept. -/
theorem Sim.world {R' : List (Nat × Ch)} {D : List Nat → Prop} {R : Nat → Prop} (S : Sim Bb w0 O0 av Γ a w β F) (fit : FitG D R Γ)
  (hz : ∀ d, D d → ∀ b, ZdOf Bb F Γ.roots d b → (hp w b).isSome → hp w' b = hp w b ∧ ZdOf Bb F' R' d b) (hβ : ∀ q, R q → β' q = β q)
  (hr : ∀ r c, (r, c) ∈ R' → RootR (hp w') (ZdOf Bb F' R') β' (F' r) r c) (hi : (R'.map (·.1)).Nodup) (hn : (allO F' R').Nodup)
  (ho : ∀ b ∈ allO F' R', b < w'.heap.size ∧ (b ∈ O0 ∨ w0.heap.size ≤ b)) (hf : Frm O0 w0 w') (h1 : ∀ q, one (β' q) = true) : Sim Bb w0 O0 av ⟨Γ.nt, Γ.slots, R', Γ.anch⟩ a w' β' F' :=
 ⟨S.size, S.defers, fun n v hm => by
  obtain ⟨x, h1, h2⟩ := S.slots n v hm
  exact ⟨x, h1, SlotR.mono hz hβ (fit.slots n v hm) h2⟩, hr, AnchR.mono hz hβ fit.anch S.anch, hi, hn, ho, hf, h1, S.base⟩
theorem RootR.mono {h h' : Hp} {Zd Zd' : List Nat → Nat → Prop} {D : List Nat → Prop} {R : Nat → Prop} (hD : D []) (hz : ∀ d, D d → ∀ b, Zd d b → (h b).isSome → h' b = h b ∧ Zd' d b) (hβ : ∀ q, R q → β' q = β q)
  {B : List Nat} {r : Nat} {c : Ch} (hr : β' r = β r) (hb : ∀ b ∈ B, h' b = h b) (fit : ∀ v, c = .box v → Fit D R v) (o : RootR h Zd β B r c) : RootR h' Zd' β' B r c := by
 cases c with
 | row lvl e xs => unfold RootR; rw [hr]; exact Own.mono (hz [] hD) hb o
 | box v =>
  obtain ⟨b, cs, ty, h1, h2, h3, h4⟩ := o
  exact ⟨b, cs, ty, hr.trans h1, h2, (hb b (by rw [h2]; simp)).trans h3, SVc.mono hz hβ (fit v rfl) h4⟩
 | iter s p =>
  obtain ⟨b, n, h1, h2, h3, h4⟩ := o
  exact ⟨b, n, hr.trans h1, h2, (hb b (by rw [h2]; simp)).trans h3, h4⟩
 | mp k v xs => unfold RootR; rw [hr]; exact Own.mono (hz [] hD) hb o
 | glob l =>
  obtain ⟨h1, h2⟩ := o
  refine ⟨h1, fun p hp => ?_⟩
  obtain ⟨h3, arr, ty, fz, h4, h5, h8, h9⟩ := h2 p hp
  obtain ⟨h6, h7⟩ := hz [] hD _ h3 (by rw [h4]; rfl)
  refine ⟨h7, arr, ty, fz, h6.trans h4, h5, h8, fun u a e => ?_⟩
  obtain ⟨g1, arr', ty', g2⟩ := h9 u a e
  obtain ⟨g3, g4⟩ := hz [] hD _ g1 (by rw [g2]; rfl)
  exact ⟨g4, arr', ty', g3.trans g2⟩
theorem mem_allO {R : List (Nat × Ch)} {b : Nat} : b ∈ allO F R ↔ ∃ r ∈ R.map (·.1), b ∈ F r := by
 unfold allO; simp only [List.mem_flatten, List.mem_map]
 constructor
 ·rintro ⟨l, ⟨p, hp, rfl⟩, hb⟩; exact ⟨p.1, ⟨p, hp, rfl⟩, hb⟩
 ·rintro ⟨r, ⟨p, hp, rfl⟩, hb⟩; exact ⟨_, ⟨p, hp, rfl⟩, hb⟩
/-- Two roots share no block. -/
theorem disj {R : List (Nat × Ch)} (hi : (R.map (·.1)).Nodup) (hn : (allO F R).Nodup) {r q b : Nat} (hr : r ∈ R.map (·.1)) (hq : q ∈ R.map (·.1)) (h1 : b ∈ F r) (h2 : b ∈ F q) : r = q := by
 induction R with
 | nil => cases hr
 | cons p R ih =>
  simp only [List.map_cons, List.nodup_cons] at hi
  have e : allO F (p :: R) = F p.1 ++ allO F R := by simp [allO]
  rw [e, List.nodup_append] at hn
  simp only [List.map_cons, List.mem_cons] at hr hq
  rcases hr with rfl | hr <;> rcases hq with rfl | hq
  ·rfl
  ·exact absurd rfl (hn.2.2 _ h1 _ (mem_allO.2 ⟨_, hq, h2⟩))
  ·exact absurd rfl (hn.2.2 _ h2 _ (mem_allO.2 ⟨_, hr, h1⟩))
  ·exact ih hi.2 hn.2.1 hr hq
end

/-! ### types -/
def InfoOk (P : Program) (τ : Ty) (t : TypeId) : Prop := ∃ i, P.info? t = some i ∧ i.size = τ.sz ∧ i.zero = some (valOf τ.agg τ.zc) ∧ 0 < i.bytes ∧ i.bytes ≤ 1024
def TyF (P : Program) : Ty → (TypeId → Prop) × (List Field → Nat → Prop)
 | .unit => (fun t => ∃ fs, P.underlying t = some (.struct fs) ∧ fs.toList = [] ∧ InfoOk P .unit t, fun fs _ => fs = [])
 | .int k => (fun t => P.underlying t = some (.int k) ∧ InfoOk P (.int k) t, fun _ _ => False)
 | .bool => (fun t => P.underlying t = some .bool ∧ InfoOk P .bool t, fun _ _ => False)
 | .str => (fun t => P.underlying t = some .string ∧ InfoOk P .str t, fun _ _ => False)
 | .pair a b =>
  (fun t => ∃ fs, P.underlying t = some (.struct fs) ∧ (∃ f l, fs.toList = f :: l ∧ f.offset = 0 ∧ (TyF P a).1 f.type ∧ (TyF P b).2 l (0 + a.sz)) ∧ InfoOk P (.pair a b) t,
   fun fs off => ∃ f l, fs = f :: l ∧ f.offset = off ∧ (TyF P a).1 f.type ∧ (TyF P b).2 l (off + a.sz))
 | .sl e => (fun t => ∃ te, P.underlying t = some (.slice te) ∧ (TyF P e).1 te ∧ InfoOk P (.sl e) t, fun _ _ => False)
 | .any => (fun t => ∃ m, P.underlying t = some (.interface m) ∧ InfoOk P .any t, fun _ _ => False)
 | .arr n e => (fun t => ∃ te, P.underlying t = some (.array n te) ∧ (TyF P e).1 te ∧ InfoOk P (.arr n e) t, fun _ _ => False)
 | .mp k v => (fun t => ∃ tk tv, P.underlying t = some (.map tk tv) ∧ (TyF P k).1 tk ∧ (TyF P v).1 tv ∧ InfoOk P (.mp k v) t, fun _ _ => False)
 | .ptr e => (fun t => ∃ te, P.underlying t = some (.pointer te) ∧ (TyF P e).1 te ∧ InfoOk P (.ptr e) t, fun _ _ => False)
 | .inil => (fun t => ∃ m, P.underlying t = some (.interface m) ∧ InfoOk P .inil t, fun _ _ => False)
 | .ialt u a r => (fun t => ∃ m, P.underlying t = some (.interface m) ∧ (TyF P a).1 u ∧ (TyF P r).1 t ∧ InfoOk P (.ialt u a r) t, fun _ _ => False)
def TyOk (P : Program) (τ : Ty) (t : TypeId) : Prop := (TyF P τ).1 t
def wrB (arr : Array Value) (o : Nat) (v : Int) : Nat → Array Value
 | 0 => arr
 | i + 1 => (wrB arr o v i).setIfInBounds (o + i) (.int .u8 (v / 2 ^ (8 * i) % 256))
/-- A function that lays the bytes of a number down, and does nothing else. -/
def Writes (P : Program) (f : FuncId) : Prop := (∀ (args : Array Value) (w : World), (callFunc f args).run P w = .ok (.enter f args) w) ∧
 ∀ (w : World) (b o l cap : Nat) (arr : Array Value) (ty : TypeId) (v : Int) (n : Nat), w.heap[b]? = some (.cells arr ty (0, 0)) → o + l ≤ arr.size → n ≤ l → n ≤ 8 → (∀ k, k < l → ∃ z, arr[o + k]? = some (.int .u8 z)) →
  Calls P f #[.slice (some ⟨b, o, none⟩) l cap, .int .i64 v, .int .i64 n] w fun e w' => e = .returned (.tuple #[]) ∧ w' = { w with heap := w.heap.setIfInBounds b (.cells (wrB arr o v n) ty (0, 0)) }
/-- A struct that is compared field by field. -/
structure EqSide (P : Program) (t : TypeId) : Prop where
 guard : P.eqGuardType P.depth t = false
 held : P.stoodInHeld t = false
 under : P.underlying t = some (.struct (P.fieldsOf t))
 names : (P.fieldsOf t).toList.all (fun f => f.name != "_") = true
structure TabOk (P : Program) (T : Tab) : Prop where
 ty : ∀ t τ, T.ty t = some τ → TyOk P τ t
 mth : ∀ t n f, T.mth t n = some f → ∀ (v : Value) (w : World), (method (P.types.size + Made.depth) t v n).run P w = .ok (f, v) w
 wr : ∀ f ∈ T.wr, Writes P f
 eq : ∀ t ∈ T.eq, EqSide P t
theorem TyOk.info {P : Program} {τ : Ty} {t : TypeId} (h : TyOk P τ t) : InfoOk P τ t := by
 cases τ with
 | unit => obtain ⟨_, _, _, h⟩ := h; exact h
 | int k => exact h.2
 | bool => exact h.2
 | str => exact h.2
 | pair a b => obtain ⟨_, _, _, h⟩ := h; exact h
 | sl e => obtain ⟨_, _, _, h⟩ := h; exact h
 | any => obtain ⟨_, _, h⟩ := h; exact h
 | arr n e => obtain ⟨_, _, _, h⟩ := h; exact h
 | mp k v => obtain ⟨_, _, _, _, _, h⟩ := h; exact h
 | ptr e => obtain ⟨_, _, _, h⟩ := h; exact h
 | inil => obtain ⟨_, _, h⟩ := h; exact h
 | ialt u a r => obtain ⟨_, _, _, _, h⟩ := h; exact h
theorem TyOk.slice {P : Program} {e : Ty} {t : TypeId} (h : TyOk P (.sl e) t) : ∃ te, P.underlying t = some (.slice te) ∧ TyOk P e te := by
 obtain ⟨te, h1, h2, _⟩ := h; exact ⟨te, h1, h2⟩
/-- The field number n of a struct. -/
theorem TyOk.field {P : Program} {τ : Ty} {t : TypeId} {n : Nat} {u : Ty} (h : TyOk P τ t) (hu : tyAt τ [n] = some u) : ∃ fs f, P.underlying t = some (.struct fs) ∧ fs[n]? = some f ∧ f.offset = offAt τ [n] ∧ TyOk P u f.type := by
 have key : ∀ (n : Nat) (τ u : Ty) (fs : List Field) (off : Nat), (TyF P τ).2 fs off → tyAt τ [n] = some u → ∃ f, fs[n]? = some f ∧ f.offset = off + offAt τ [n] ∧ TyOk P u f.type := by
  intro n
  induction n with
  | zero =>
   intro τ u fs off h hu
   cases τ with
   | pair a b =>
    obtain ⟨f, l, rfl, h1, h2, h3⟩ := h
    simp only [tyAt, Option.some.injEq] at hu; subst hu
    exact ⟨f, rfl, by simp [offAt, h1], h2⟩
   | _ => simp [tyAt] at hu
  | succ n ih =>
   intro τ u fs off h hu
   cases τ with
   | pair a b =>
    obtain ⟨f, l, rfl, h1, h2, h3⟩ := h
    obtain ⟨g, q1, q2, q3⟩ := ih b u l _ h3 hu
    exact ⟨g, q1, by simp only [offAt]; omega, q3⟩
   | _ => simp [tyAt] at hu
 cases τ with
 | pair a b =>
  obtain ⟨fs, h1, h2, _⟩ := h
  obtain ⟨f, q1, q2, q3⟩ := key n (.pair a b) u fs.toList 0 h2 hu
  exact ⟨fs, f, h1, by simpa using q1, by simpa using q2, q3⟩
 | _ => simp [tyAt] at hu
/-- What is a struct in the program is one here. -/
theorem TyOk.agg {P : Program} {w : World} {τ : Ty} {t : TypeId} (h : TyOk P τ t) : (isAgg t).run P w = .ok τ.agg w := by
 have u : ∀ d, P.underlying t = some d → (isAgg t).run P w = .ok (match d with | .struct _ | .array _ _ => true | _ => false) w := by
  intro d hd
  simp only [isAgg, underlying, program, bind, Sem.bind, Sem.run, hd, pure]
  cases d <;> rfl
 cases τ with
 | unit => obtain ⟨_, h, _⟩ := h; exact u _ h
 | int k => exact u _ h.1
 | bool => exact u _ h.1
 | str => exact u _ h.1
 | pair a b => obtain ⟨_, h, _⟩ := h; exact u _ h
 | sl e => obtain ⟨_, h, _⟩ := h; exact u _ h
 | any => obtain ⟨_, h, _⟩ := h; exact u _ h
 | arr n e => obtain ⟨_, h, _⟩ := h; exact u _ h
 | mp k v => obtain ⟨_, _, h, _⟩ := h; exact u _ h
 | ptr e => obtain ⟨_, h, _⟩ := h; exact u _ h
 | inil => obtain ⟨_, h, _⟩ := h; exact u _ h
 | ialt _ _ _ => obtain ⟨_, h, _⟩ := h; exact u _ h
end Go.Proofs.YtmjeghlfmhbjdaaDoor.Eng

/- The engine, fifth part: cells read and written. No condition. -/
namespace Go.Proofs.YtmjeghlfmhbjdaaDoor.Eng
open Go.RowKit
set_option linter.unusedVariables false
set_option linter.unusedSimpArgs false

def splice (l : List Value) (o : Nat) (vs : List Value) : List Value := l.take o ++ vs ++ l.drop (o + vs.length)
theorem seg_get (l : List Value) (o n i : Nat) : (seg l o n)[i]? = if i < n then l[o + i]? else none := by
 unfold seg; rw [List.getElem?_take]; split
 ·rw [List.getElem?_drop]
 ·rfl
theorem seg_len {l : List Value} {o n : Nat} (h : o + n ≤ l.length) : (seg l o n).length = n := by unfold seg; simp; omega
theorem splice_get {l : List Value} {o : Nat} {vs : List Value} (h : o + vs.length ≤ l.length) (i : Nat) : (splice l o vs)[i]? = if i < o then l[i]? else if i < o + vs.length then vs[i - o]? else l[i]? := by
 have e1 : (l.take o ++ vs).length = o + vs.length := by simp; omega
 have e0 : (l.take o).length = o := by simp; omega
 unfold splice
 by_cases h1 : i < o
 ·rw [if_pos h1, List.append_assoc, List.getElem?_append_left (by rw [e0]; exact h1), List.getElem?_take, if_pos h1]
 ·rw [if_neg h1]
  by_cases h2 : i < o + vs.length
  ·rw [if_pos h2, List.getElem?_append_left (by rw [e1]; exact h2), List.getElem?_append_right (by rw [e0]; omega), e0]
  ·rw [if_neg h2, List.getElem?_append_right (by rw [e1]; omega), e1, List.getElem?_drop]
   congr 1; omega
theorem splice_len {l : List Value} {o : Nat} {vs : List Value} (h : o + vs.length ≤ l.length) : (splice l o vs).length = l.length := by unfold splice; simp; omega
theorem seg_splice_in {l : List Value} {o d n : Nat} {vs : List Value} (h1 : d + vs.length ≤ n) (h2 : o + n ≤ l.length) : seg (splice l (o + d) vs) o n = splice (seg l o n) d vs := by
 apply List.ext_getElem?; intro i
 rw [seg_get, splice_get (by omega), splice_get (by rw [seg_len h2]; exact h1), seg_get]
 by_cases hi : i < n
 ·simp only [hi, if_true]
  by_cases a : i < d
  ·rw [if_pos (by omega), if_pos a]
  ·rw [if_neg (by omega), if_neg a]
   by_cases b : i < d + vs.length
   ·rw [if_pos (by omega), if_pos b]; congr 1; omega
   ·rw [if_neg (by omega), if_neg b]
 ·simp only [hi, if_false]
  rw [if_neg (by omega), if_neg (by omega)]
theorem seg_splice_out {l : List Value} {o k n : Nat} {vs : List Value} (h1 : o + n ≤ k ∨ k + vs.length ≤ o) (h2 : k + vs.length ≤ l.length) : seg (splice l k vs) o n = seg l o n := by
 apply List.ext_getElem?; intro i
 rw [seg_get, seg_get, splice_get h2]
 split
 ·rcases h1 with h1 | h1
  ·rw [if_pos (by omega)]
  ·rw [if_neg (by omega), if_neg (by omega)]
 ·rfl
theorem seg_seg {l : List Value} {o n d m : Nat} (h : d + m ≤ n) : seg (seg l o n) d m = seg l (o + d) m := by
 apply List.ext_getElem?; intro i
 rw [seg_get, seg_get, seg_get]
 by_cases hi : i < m
 ·rw [if_pos hi, if_pos hi, if_pos (by omega)]; congr 1; omega
 ·rw [if_neg hi, if_neg hi]
theorem seg_self (l : List Value) : seg l 0 l.length = l := by unfold seg; simp
theorem seg_left {a b : List Value} {o n : Nat} (h : o + n ≤ a.length) : seg (a ++ b) o n = seg a o n := by
 apply List.ext_getElem?; intro i
 rw [seg_get, seg_get]; split
 ·rw [List.getElem?_append_left (by omega)]
 ·rfl
theorem seg_right {a b : List Value} {o n : Nat} : seg (a ++ b) (a.length + o) n = seg b o n := by
 apply List.ext_getElem?; intro i
 rw [seg_get, seg_get]; split
 ·rw [List.getElem?_append_right (by omega)]; congr 1; omega
 ·rfl
theorem splice_left {a b vs : List Value} {o : Nat} (h : o + vs.length ≤ a.length) : splice (a ++ b) o vs = splice a o vs ++ b := by
 unfold splice
 rw [List.take_append_of_le_length (by omega), List.drop_append_of_le_length (by omega)]; simp
theorem splice_right {a b vs : List Value} {o : Nat} : splice (a ++ b) (a.length + o) vs = a ++ splice b o vs := by
 unfold splice
 rw [List.take_append, List.drop_append]
 simp [List.take_of_length_le, Nat.add_assoc]

/-! ### running -/
section
variable {P : Program} {w : World}
theorem add_none (b o n : Nat) : Addr.add ⟨b, o, none⟩ n = ⟨b, o + n, none⟩ := by unfold Addr.add; split <;> simp_all
theorem cell_at {b o : Nat} {arr : Array Value} {ty : TypeId} {fz : Nat × Nat} (hb : w.heap[b]? = some (.cells arr ty fz)) : w.cell? ⟨b, o, none⟩ = arr[o]? := by
 unfold World.cell?; rw [hb]; rfl
theorem run_load {α : Type} {a : Addr} {v : Value} {k : Value → Sem α} (h : w.cell? a = some v) : (Sem.load .plain a k).run P w = (k v).run P w := by
 simp only [Sem.run, h]
theorem run_bind_ok {α γ : Type} {s : Sem α} {k : α → Sem γ} {x : α} {w' : World} (h : s.run P w = .ok x w') : (s.bind k).run P w = (k x).run P w' := by
 induction s generalizing w with
 | pure a => simp only [Sem.run, Result.ok.injEq] at h; obtain ⟨rfl, rfl⟩ := h; rfl
 | load m a k' ih =>
  simp only [Sem.bind, Sem.run] at h ⊢
  split at h
  ·exact ih _ h
  ·split at h
   ·exact ih _ h
   ·cases h
 | store m a v k' ih =>
  cases v <;> simp only [Sem.bind, Sem.run] at h ⊢ <;> (first | (cases h; done) | skip) <;> (split at h) <;> (try (split at h)) <;> (first | (cases h; done) | (simp_all; done) | exact ih h)
 | new o k' ih => simp only [Sem.bind, Sem.run] at h ⊢; exact ih _ h
 | shape r k' ih => simp only [Sem.bind, Sem.run] at h ⊢; exact ih _ h
 | freeze a n k' ih => simp only [Sem.bind, Sem.run] at h ⊢; exact ih h
 | frozen a k' ih => simp only [Sem.bind, Sem.run] at h ⊢; exact ih _ h
 | getObj r k' ih =>
  simp only [Sem.bind, Sem.run] at h ⊢
  split at h <;> first | (cases h; done) | exact ih _ h
 | setObj r o k' ih =>
  simp only [Sem.bind, Sem.run] at h ⊢
  split at h <;> first | (cases h; done) | exact ih h
 | choose q k' ih =>
  simp only [Sem.bind, Sem.run] at h ⊢
  split at h <;> rename_i hq
  ·rw [if_pos hq]; exact ih _ h
  ·rw [if_neg hq]; exact ih _ h
 | sys c k' ih => simp only [Sem.bind, Sem.run] at h ⊢; exact ih _ h
 | program k' ih => simp only [Sem.bind, Sem.run] at h ⊢; exact ih _ h
 | mark m k' ih => simp only [Sem.bind, Sem.run] at h ⊢; exact ih h
 | halt x => simp only [Sem.run] at h; cases h
theorem run_bind {α γ : Type} {s : Sem α} {k : α → Sem γ} {x : α} {w' : World} (h : s.run P w = .ok x w') : (s >>= k).run P w = (k x).run P w' := run_bind_ok h
theorem run_info {τ : Ty} {t : TypeId} (h : InfoOk P τ t) : ∃ i, (typeInfo t).run P w = .ok i w ∧ i.size = τ.sz ∧ i.zero = some (valOf τ.agg τ.zc) ∧ 0 < i.bytes ∧ i.bytes ≤ 1024 := by
 obtain ⟨i, h1, h2⟩ := h
 exact ⟨i, by simp only [typeInfo, program, bind, Sem.bind, Sem.run, h1, pure], h2⟩
theorem run_size {τ : Ty} {t : TypeId} (h : InfoOk P τ t) : (sizeOf t).run P w = .ok τ.sz w := by
 obtain ⟨i, h1, h2, _⟩ := run_info (w := w) h
 unfold sizeOf; rw [run_bind h1, ← h2]; rfl
theorem run_zero {τ : Ty} {t : TypeId} (h : InfoOk P τ t) : (zeroValue t).run P w = .ok (valOf τ.agg τ.zc) w := by
 obtain ⟨i, h1, _, h2, _⟩ := run_info (w := w) h
 unfold zeroValue; rw [run_bind h1, h2]; rfl
theorem run_under {t : TypeId} {d : TypeDesc} (h : P.underlying t = some d) : (underlying t).run P w = .ok d w := by
 simp only [underlying, program, bind, Sem.bind, Sem.run, h, pure]
theorem run_loadCellsFrom {b o : Nat} {arr : Array Value} {ty : TypeId} {fz : Nat × Nat} (hb : w.heap[b]? = some (.cells arr ty fz)) :
  ∀ (n i : Nat) (acc : Array Value), o + i + n ≤ arr.size → (loadCellsFrom ⟨b, o, none⟩ i n acc).run P w = .ok (acc ++ (seg arr.toList (o + i) n).toArray) w
 | 0, i, acc, _ => by simp [loadCellsFrom, seg, pure, Sem.run]
 | n + 1, i, acc, h => by
  have hi : o + i < arr.size := by omega
  have hc : w.cell? (Addr.add ⟨b, o, none⟩ i) = some arr[o + i] := by rw [add_none, cell_at hb, Array.getElem?_eq_getElem hi]
  have e : seg arr.toList (o + i) (n + 1) = arr[o + i] :: seg arr.toList (o + (i + 1)) n := by
   unfold seg
   rw [List.drop_eq_getElem_cons (by simpa using hi)]
   simp [Nat.add_assoc]
  unfold loadCellsFrom load
  show (Sem.bind _ _).run P w = _
  simp only [Sem.bind]
  rw [run_load hc]
  rw [run_loadCellsFrom hb n (i + 1) _ (by omega), e]
  simp
theorem run_loadVar {τ : Ty} {t : TypeId} (ht : TyOk P τ t) {b o : Nat} {arr : Array Value} {ty : TypeId} {fz : Nat × Nat} (hb : w.heap[b]? = some (.cells arr ty fz)) (h : o + τ.sz ≤ arr.size) :
  (loadVar t ⟨b, o, none⟩).run P w = .ok (valOf τ.agg (seg arr.toList o τ.sz)) w := by
 unfold loadVar
 rw [run_bind ht.agg]
 cases ha : τ.agg with
 | true =>
  simp only [if_true]
  show (Sem.bind _ _).run P w = _
  rw [run_bind_ok (run_size ht.info)]
  show (Sem.bind _ _).run P w = _
  unfold loadCells
  rw [run_bind_ok (run_loadCellsFrom hb τ.sz 0 #[] (by omega))]
  simp [valOf, pure, Sem.run]
 | false =>
  have hs : τ.sz = 1 := by cases τ <;> first | rfl | cases ha
  have hi : o < arr.size := by omega
  simp only [Bool.false_eq_true, if_false]
  unfold load
  rw [run_load (v := arr[o]) (by rw [cell_at hb, Array.getElem?_eq_getElem hi])]
  simp [Sem.run, valOf, hs, seg, List.drop_eq_getElem_cons, hi]
def upd (w : World) (b : Nat) (o : Obj) : World := { w with heap := w.heap.setIfInBounds b o }
theorem upd_get {b : Nat} {o o' : Obj} (hb : w.heap[b]? = some o') : (upd w b o).heap[b]? = some o := by
 have : b < w.heap.size := (Array.getElem?_eq_some_iff.1 hb).1
 simp [upd, this]
theorem upd_ne {b k : Nat} {o : Obj} (h : k ≠ b) : (upd w b o).heap[k]? = w.heap[k]? := by simp [upd, Array.getElem?_setIfInBounds_ne (Ne.symm h)]
theorem upd_upd {b : Nat} {o o' : Obj} : upd (upd w b o) b o' = upd w b o' := by simp [upd]
theorem upd_size {b : Nat} {o : Obj} : (upd w b o).heap.size = w.heap.size := by simp [upd]
theorem setCell_upd {b o : Nat} {arr : Array Value} {ty : TypeId} {fz : Nat × Nat} {v : Value} (hb : w.heap[b]? = some (.cells arr ty fz)) : w.setCell ⟨b, o, none⟩ v = upd w b (.cells (arr.setIfInBounds o v) ty fz) := by
 have hlt : b < w.heap.size := (Array.getElem?_eq_some_iff.1 hb).1
 have he : w.heap[b] = .cells arr ty fz := (Array.getElem?_eq_some_iff.1 hb).2
 unfold World.setCell upd
 congr 1
 apply Array.ext_getElem?
 intro i
 rw [Array.getElem?_modify, Array.getElem?_setIfInBounds]
 by_cases hi : b = i
 ·subst hi; simp [hlt, he]
 ·simp [hi]
theorem run_storeCells {b : Nat} {ty : TypeId} : ∀ (vs : List Value) (o i : Nat) (arr : Array Value) (w : World), w.heap[b]? = some (.cells arr ty (0, 0)) → (∀ v ∈ vs, one v = true) → o + i + vs.length ≤ arr.size →
  (storeCells ⟨b, o, none⟩ vs i).run P w = .ok () (upd w b (.cells (splice arr.toList (o + i) vs).toArray ty (0, 0)))
 | [], o, i, arr, w, hb, _, h => by
  have : upd w b (.cells (splice arr.toList (o + i) []).toArray ty (0, 0)) = w := by
   have hlt : b < w.heap.size := (Array.getElem?_eq_some_iff.1 hb).1
   have he : w.heap[b] = .cells arr ty (0, 0) := (Array.getElem?_eq_some_iff.1 hb).2
   unfold upd splice
   simp only [List.append_nil, List.length_nil, Nat.add_zero, List.take_append_drop, Array.toArray_toList]
   rw [← he, Array.setIfInBounds]; simp [hlt]
  rw [this]; rfl
 | v :: vs, o, i, arr, w, hb, hv, h => by
  simp only [List.length_cons] at h
  have hi : o + i < arr.size := by omega
  have hc : w.cell? (Addr.add ⟨b, o, none⟩ i) = some arr[o + i] := by rw [add_none, cell_at hb, Array.getElem?_eq_getElem hi]
  have hf : w.frozen? (Addr.add ⟨b, o, none⟩ i) = false := by
   rw [add_none]; unfold World.frozen?; rw [hb]; simp
  have h1 : (store (Addr.add ⟨b, o, none⟩ i) v).run P w = .ok () (w.setCell (Addr.add ⟨b, o, none⟩ i) v) := by
   have hv1 := hv v (by simp)
   unfold store
   cases v <;> simp only [Sem.run, hc, hf, Bool.false_eq_true, if_false] <;> simp [one] at hv1
  unfold storeCells
  rw [run_bind h1, add_none, setCell_upd hb]
  rw [run_storeCells vs o (i + 1) _ _ (upd_get hb) (fun u hu => hv u (by simp [hu])) (by simp; omega), upd_upd]
  have key : splice (arr.setIfInBounds (o + i) v).toList (o + (i + 1)) vs = splice arr.toList (o + i) (v :: vs) := by
   apply List.ext_getElem?
   intro k
   rw [splice_get (by simp; omega), splice_get (by simp; omega)]
   simp only [Array.toList_setIfInBounds, List.length_cons, List.getElem?_set]
   by_cases h1 : k < o + i
   ·rw [if_pos (by omega), if_pos h1, if_neg (by omega)]
   ·rw [if_neg h1]
    by_cases h2 : k = o + i
    ·subst h2
     rw [if_pos (by omega), if_pos rfl, if_pos (by simpa using hi), if_pos (by omega), Nat.sub_self]; rfl
    ·rw [if_neg (by omega)]
     by_cases h3 : k < o + (i + 1) + vs.length
     ·rw [if_pos h3, if_pos (by omega)]
      rw [show k - (o + i) = (k - (o + (i + 1))) + 1 by omega]; rfl
     ·rw [if_neg h3, if_neg (by omega), if_neg (by omega)]
  rw [key]
end
end Go.Proofs.YtmjeghlfmhbjdaaDoor.Eng

/- The engine, sixth part: parts of what is held. No condition. -/
namespace Go.Proofs.YtmjeghlfmhbjdaaDoor.Eng
open Go.RowKit
set_option linter.unusedVariables false
set_option linter.unusedSimpArgs false

section
variable {h h' : Hp} {Z Z' : Nat → Prop}
theorem Own.one : ∀ {t : Ty} {n : Nat} {B : List Nat} {cs : List Value} {x : t.den}, Own h Z t n B cs x → ∀ v ∈ cs, Eng.one v = true
 | .unit, _, _, _, _, ⟨_, e⟩, v, hv => by rw [e] at hv; cases hv
 | .int k, _, _, _, _, ⟨_, e, _⟩, v, hv => by rw [e] at hv; simp at hv; rw [hv]; rfl
 | .bool, _, _, _, _, ⟨_, e⟩, v, hv => by rw [e] at hv; simp at hv; rw [hv]; rfl
 | .str, _, _, _, _, ⟨_, e, _⟩, v, hv => by rw [e] at hv; simp at hv; rw [hv]; rfl
 | .pair a b, _, _, _, _, ⟨_, _, _, _, _, e, h1, h2⟩, v, hv => by
   rw [e] at hv
   rcases List.mem_append.1 hv with hv | hv
   ·exact h1.one v hv
   ·exact h2.one v hv
 | .sl e, _, _, _, _, ⟨_, _, e', _⟩, v, hv => by rw [e'] at hv; simp at hv; rw [hv]; rfl
 | .any, _, _, _, _, ⟨_, e, o⟩, v, hv => by rw [e] at hv; simp at hv; rw [hv]; exact o
 | .arr n e, _, _, cs, xs, ⟨_, e1, e2, r⟩, v, hv => by
   obtain ⟨k, hk, rfl⟩ := List.mem_iff_getElem.1 hv
   have hz : 0 < e.sz := by rcases Nat.eq_zero_or_pos e.sz with h | h
                            · rw [h, Nat.mul_zero] at e2; omega
                            · exact h
   have hi : k / e.sz < n := Nat.div_lt_of_lt_mul (by rw [Nat.mul_comm]; omega)
   have hx : k / e.sz < xs.length := by rw [e1]; exact hi
   have o := r (k / e.sz) _ (List.getElem?_eq_getElem hx)
   have hm : k % e.sz < e.sz := Nat.mod_lt _ hz
   have hg : (seg cs (k / e.sz * e.sz) e.sz)[k % e.sz]? = some cs[k] := by
    unfold seg
    rw [List.getElem?_take, if_pos hm, List.getElem?_drop, Nat.mul_comm, Nat.div_add_mod]
    exact List.getElem?_eq_getElem hk
   exact Own.one o _ (List.mem_of_getElem? hg)
 | .mp _ _, _, _, _, none, ⟨_, e⟩, v, hv => by rw [e] at hv; simp at hv; rw [hv]; rfl
 | .mp _ _, _, _, _, some _, ⟨_, _, _, e, _⟩, v, hv => by rw [e] at hv; simp at hv; rw [hv]; rfl
 | .ptr _, _, _, _, none, ⟨_, e⟩, v, hv => by rw [e] at hv; simp at hv; rw [hv]; rfl
 | .ptr _, 0, _, _, some _, ⟨_, _, _, _, _, _, e, _⟩, v, hv => by rw [e] at hv; simp at hv; rw [hv]; rfl
 | .ptr _, _ + 1, _, _, some _, ⟨_, _, _, _, e, _⟩, v, hv => by rw [e] at hv; simp at hv; rw [hv]; rfl
 | .inil, _, _, _, _, ⟨_, e⟩, v, hv => by rw [e] at hv; simp at hv; rw [hv]; rfl
 | .ialt _ _ _, _, _, _, .inl _, ⟨_, e, _⟩, v, hv => by rw [e] at hv; simp at hv; rw [hv]; rfl
 | .ialt _ _ _, _, _, _, .inr _, o, v, hv => by
   rcases o with ⟨_, e, _⟩ | ⟨_, o⟩
   ·rw [e] at hv; simp at hv; rw [hv]; rfl
   ·exact Own.one o v hv
theorem tyAt_nil (t : Ty) : tyAt t [] = some t := by cases t <;> rfl
theorem offAt_nil (t : Ty) : offAt t [] = 0 := by cases t <;> rfl
theorem offAt_le : ∀ {t : Ty} {p : List Nat} {u : Ty}, tyAt t p = some u → offAt t p + u.sz ≤ t.sz
 | t, [], u, e => by
   simp only [tyAt, Option.some.injEq] at e; subst e
   have : offAt t [] = 0 := by cases t <;> rfl
   omega
 | .pair a b, 0 :: p, u, e => by have := offAt_le (t := a) (p := p) e; simp only [offAt, Ty.sz]; omega
 | .pair a b, (n + 1) :: p, u, e => by have := offAt_le (t := b) (p := n :: p) e; simp only [offAt, Ty.sz]; omega
 | .unit, _ :: _, u, e => by simp [tyAt] at e
 | .int _, _ :: _, u, e => by simp [tyAt] at e
 | .bool, _ :: _, u, e => by simp [tyAt] at e
 | .str, _ :: _, u, e => by simp [tyAt] at e
 | .sl _, _ :: _, u, e => by simp [tyAt] at e
 | .any, _ :: _, u, e => by simp [tyAt] at e
 | .arr _ _, _ :: _, u, e => by simp [tyAt] at e
 | .mp _ _, _ :: _, u, e => by simp [tyAt] at e
 | .ptr _, _ :: _, u, e => by simp [tyAt] at e
 | .inil, _ :: _, u, e => by simp [tyAt] at e
 | .ialt _ _ _, _ :: _, u, e => by simp [tyAt] at e
theorem tyAt_app : ∀ {t : Ty} {p q : List Nat} {u : Ty}, tyAt t p = some u → tyAt t (p ++ q) = tyAt u q ∧ offAt t (p ++ q) = offAt t p + offAt u q
 | t, [], q, u, e => by
   simp only [tyAt, Option.some.injEq] at e; subst e
   have : offAt t [] = 0 := by cases t <;> rfl
   simp [this]
 | .pair a b, 0 :: p, q, u, e => by obtain ⟨h1, h2⟩ := tyAt_app (t := a) (p := p) (q := q) e; exact ⟨h1, h2⟩
 | .pair a b, (n + 1) :: p, q, u, e => by
   obtain ⟨h1, h2⟩ := tyAt_app (t := b) (p := n :: p) (q := q) e
   exact ⟨h1, by simp only [offAt, List.cons_append] at h2 ⊢; omega⟩
 | .unit, _ :: _, q, u, e => by simp [tyAt] at e
 | .int _, _ :: _, q, u, e => by simp [tyAt] at e
 | .bool, _ :: _, q, u, e => by simp [tyAt] at e
 | .str, _ :: _, q, u, e => by simp [tyAt] at e
 | .sl _, _ :: _, q, u, e => by simp [tyAt] at e
 | .any, _ :: _, q, u, e => by simp [tyAt] at e
 | .arr _ _, _ :: _, q, u, e => by simp [tyAt] at e
 | .mp _ _, _ :: _, q, u, e => by simp [tyAt] at e
 | .ptr _, _ :: _, q, u, e => by simp [tyAt] at e
 | .inil, _ :: _, q, u, e => by simp [tyAt] at e
 | .ialt _ _ _, _ :: _, q, u, e => by simp [tyAt] at e
/-- A part. -/
theorem Own.at : ∀ {t : Ty} {n : Nat} {B : List Nat} {cs : List Value} {x : t.den} {p : List Nat} {s : (u : Ty) × u.den}, Own h Z t n B cs x → getAt t x p = some s →
  tyAt t p = some s.1 ∧ ∃ B', (∀ b ∈ B', b ∈ B) ∧ Own h Z s.1 n B' (seg cs (offAt t p) s.1.sz) s.2
 | t, n, B, cs, x, [], s, o, e => by
   have e' : some (⟨t, x⟩ : (u : Ty) × u.den) = some s := by cases t <;> exact e
   simp only [Option.some.injEq] at e'; subst e'
   have : offAt t [] = 0 := by cases t <;> rfl
   exact ⟨tyAt_nil t, B, fun _ m => m, by rw [this, ← o.len, seg_self]; exact o⟩
 | .pair a b, n, B, cs, x, 0 :: p, s, ⟨B1, B2, c1, c2, e1, e2, o1, o2⟩, e => by
   obtain ⟨h1, B', h2, h3⟩ := o1.at (p := p) e
   have hl := offAt_le h1
   rw [← o1.len] at hl
   exact ⟨h1, B', fun k m => by rw [e1]; exact List.mem_append_left _ (h2 k m), by rw [e2]; simp only [offAt]; rw [seg_left hl]; exact h3⟩
 | .pair a b, n, B, cs, x, (m + 1) :: p, s, ⟨B1, B2, c1, c2, e1, e2, o1, o2⟩, e => by
   obtain ⟨h1, B', h2, h3⟩ := o2.at (p := m :: p) e
   exact ⟨h1, B', fun k m => by rw [e1]; exact List.mem_append_right _ (h2 k m), by rw [e2]; simp only [offAt]; rw [← o1.len, seg_right]; exact h3⟩
 | .unit, _, _, _, _, _ :: _, _, _, e => by simp [getAt] at e
 | .int _, _, _, _, _, _ :: _, _, _, e => by simp [getAt] at e
 | .bool, _, _, _, _, _ :: _, _, _, e => by simp [getAt] at e
 | .str, _, _, _, _, _ :: _, _, _, e => by simp [getAt] at e
 | .sl _, _, _, _, _, _ :: _, _, _, e => by simp [getAt] at e
 | .any, _, _, _, _, _ :: _, _, _, e => by simp [getAt] at e
 | .arr _ _, _, _, _, _, _ :: _, _, _, e => by simp [getAt] at e
 | .mp _ _, _, _, _, _, _ :: _, _, _, e => by simp [getAt] at e
 | .ptr _, _, _, _, _, _ :: _, _, _, e => by simp [getAt] at e
 | .inil, _, _, _, _, _ :: _, _, _, e => by simp [getAt] at e
 | .ialt _ _ _, _, _, _, _, _ :: _, _, _, e => by simp [getAt] at e
theorem as_some {t : Ty} {s : (u : Ty) × u.den} {y : t.den} (e : as t s = some y) : s = ⟨t, y⟩ := by
 unfold as at e; split at e
 ·rename_i h; obtain ⟨u, z⟩ := s; simp only at h; subst h; simp only [Option.some.injEq] at e; subst e; rfl
 ·cases e
theorem Own.flat : ∀ {t : Ty} {n m : Nat} {B : List Nat} {cs : List Value} {x : t.den}, t.hasSl = false → Own h Z t n B cs x → B = [] ∧ ∀ (h' : Hp) (Z' : Nat → Prop), Own h' Z' t m [] cs x
 | .unit, _, _, _, _, _, _, ⟨e, o⟩ => ⟨e, fun _ _ => ⟨rfl, o⟩⟩
 | .int k, _, _, _, _, _, _, ⟨e, o⟩ => ⟨e, fun _ _ => ⟨rfl, o⟩⟩
 | .bool, _, _, _, _, _, _, ⟨e, o⟩ => ⟨e, fun _ _ => ⟨rfl, o⟩⟩
 | .str, _, _, _, _, _, _, ⟨e, o⟩ => ⟨e, fun _ _ => ⟨rfl, o⟩⟩
 | .pair a b, n, m, _, _, _, hs, ⟨B1, B2, c1, c2, e1, e2, o1, o2⟩ => by
   simp only [Ty.hasSl, Bool.or_eq_false_iff] at hs
   obtain ⟨q1, r1⟩ := o1.flat (m := m) hs.1
   obtain ⟨q2, r2⟩ := o2.flat (m := m) hs.2
   exact ⟨by rw [e1, q1, q2]; rfl, fun h' Z' => ⟨[], [], c1, c2, rfl, e2, r1 h' Z', r2 h' Z'⟩⟩
 | .sl e, _, _, _, _, _, hs, _ => by cases hs
 | .mp _ _, _, _, _, _, _, hs, _ => by cases hs
 | .ptr _, _, _, _, _, _, hs, _ => by cases hs
 | .any, _, _, _, _, _, _, ⟨e, o⟩ => ⟨e, fun _ _ => ⟨rfl, o⟩⟩
 | .inil, _, _, _, _, _, _, ⟨e, o⟩ => ⟨e, fun _ _ => ⟨rfl, o⟩⟩
 | .arr n e, _, _, _, _, _, hs, ⟨e0, e1, e2, r⟩ => ⟨e0, fun h' Z' => ⟨rfl, e1, e2, fun i x hi => ((r i x hi).flat (m := 0) (show e.hasSl = false from hs)).2 h' Z'⟩⟩
 | .ialt _ a r, n, m, _, _, .inl _, hs, ⟨cs', e, o⟩ => by
   simp only [Ty.hasSl, Bool.or_eq_false_iff] at hs
   obtain ⟨q, k⟩ := o.flat (m := m) hs.1
   exact ⟨q, fun h' Z' => ⟨cs', e, k h' Z'⟩⟩
 | .ialt _ a r, n, m, _, _, .inr _, hs, o => by
   simp only [Ty.hasSl, Bool.or_eq_false_iff] at hs
   rcases o with ⟨e, o⟩ | ⟨e, o⟩
   ·exact ⟨e, fun _ _ => .inl ⟨rfl, o⟩⟩
   ·obtain ⟨q, k⟩ := o.flat (m := m) hs.2
    exact ⟨q, fun h' Z' => .inr ⟨e, k h' Z'⟩⟩
/-- A part is put: a flat one, or where nothing is one's own. -/
theorem Own.put : ∀ {t : Ty} {n : Nat} {B : List Nat} {cs : List Value} {x x' : t.den} {p : List Nat} {s : (u : Ty) × u.den} {vs : List Value}, Own h Z t n B cs x → setAt t x p s = some x' →
  (s.1.hasSl = false ∨ n = 0) → Own h Z s.1 n [] vs s.2 → tyAt t p = some s.1 → Own h Z t n B (splice cs (offAt t p) vs) x'
 | t, n, B, cs, x, x', [], s, vs, o, e, hs, o', ht => by
   have e' : as t s = some x' := by cases t <;> exact e
   have e'' := as_some e'; subst e''
   have : offAt t [] = 0 := by cases t <;> rfl
   have hl : vs.length = cs.length := by rw [o'.len, o.len]
   have hsp : splice cs (offAt t []) vs = vs := by rw [this]; unfold splice; simp [hl]
   rw [hsp]
   have hB : B = [] := by
    rcases hs with hs | rfl
    ·exact (o.flat (m := 0) hs).1
    ·exact o.b0
   rw [hB]; exact o'
 | .pair a b, n, B, cs, x, x', 0 :: p, s, vs, ⟨B1, B2, c1, c2, e1, e2, o1, o2⟩, e, hs, o', ht => by
   simp only [setAt, Option.map_eq_some_iff] at e
   obtain ⟨y, e, rfl⟩ := e
   have hl : offAt a p + s.1.sz ≤ a.sz := offAt_le (t := a) ht
   rw [← o'.len, ← o1.len] at hl
   refine ⟨B1, B2, splice c1 (offAt a p) vs, c2, e1, ?_, o1.put e hs o' ht, o2⟩
   rw [e2]; simp only [offAt]; rw [splice_left hl]
 | .pair a b, n, B, cs, x, x', (m + 1) :: p, s, vs, ⟨B1, B2, c1, c2, e1, e2, o1, o2⟩, e, hs, o', ht => by
   simp only [setAt, Option.map_eq_some_iff] at e
   obtain ⟨y, e, rfl⟩ := e
   refine ⟨B1, B2, c1, splice c2 (offAt b (m :: p)) vs, e1, ?_, o1, o2.put e hs o' ht⟩
   rw [e2]; simp only [offAt]; rw [← o1.len, splice_right]
 | .unit, _, _, _, _, _, _ :: _, _, _, _, e, _, _, _ => by simp [setAt] at e
 | .int _, _, _, _, _, _, _ :: _, _, _, _, e, _, _, _ => by simp [setAt] at e
 | .bool, _, _, _, _, _, _ :: _, _, _, _, e, _, _, _ => by simp [setAt] at e
 | .str, _, _, _, _, _, _ :: _, _, _, _, e, _, _, _ => by simp [setAt] at e
 | .sl _, _, _, _, _, _, _ :: _, _, _, _, e, _, _, _ => by simp [setAt] at e
 | .any, _, _, _, _, _, _ :: _, _, _, _, e, _, _, _ => by simp [setAt] at e
 | .arr _ _, _, _, _, _, _, _ :: _, _, _, _, e, _, _, _ => by simp [setAt] at e
 | .mp _ _, _, _, _, _, _, _ :: _, _, _, _, e, _, _, _ => by simp [setAt] at e
 | .ptr _, _, _, _, _, _, _ :: _, _, _, _, e, _, _, _ => by simp [setAt] at e
 | .inil, _, _, _, _, _, _ :: _, _, _, _, e, _, _, _ => by simp [setAt] at e
 | .ialt _ _ _, _, _, _, _, _, _ :: _, _, _, _, e, _, _, _ => by simp [setAt] at e
section
variable {Zd : List Nat → Nat → Prop} {β : Nat → Value}
theorem fits_sz : ∀ {v : SV} {e : Ty}, fits v e = true → v.sz = e.sz
 | .consA a b, e, f => by
   cases e <;> first | (cases f; done) | skip
   simp only [fits, Bool.and_eq_true] at f; simp only [SV.sz, Ty.sz]; rw [fits_sz f.1, fits_sz f.2]
 | .pv _ t _, e, f => by
   have : t = e := by cases e <;> simpa [fits] using f
   subst this; rfl
 | .hole n, e, f => by cases e <;> simpa [fits, SV.sz] using f
 | .nilA, e, f => by cases e <;> first | rfl | cases f
 | .nils, e, f => by cases e <;> first | rfl | cases f
 | .ref _, e, f => by cases e <;> first | rfl | cases f
 | .ad _ _ _ _, e, f => by cases e <;> first | rfl | cases f
 | .fad _ _ _ _ _, e, f => by cases e <;> first | rfl | cases f
 | .nilT, e, f => by cases e <;> cases f
 | .consT _ _, e, f => by cases e <;> cases f
 | .nilI, e, f => by cases e <;> first | rfl | cases f
 | .nilP, e, f => by cases e <;> first | rfl | cases f
 | .nilM, e, f => by cases e <;> first | rfl | cases f
 | .arp _ _ _, e, f => by cases e <;> first | rfl | cases f
 | .vw _ _ _ _, e, f => by cases e <;> first | rfl | cases f
 | .ifs _ _ _, e, f => by cases e <;> first | rfl | cases f
 | .gl _, e, f => by cases e <;> first | rfl | cases f
 | .fn _, e, f => by cases e <;> first | rfl | cases f
theorem svAt_nil (v : SV) : svAt v [] = some v := by cases v <;> rfl
theorem fits_pv {d : List Nat} {t e : Ty} {x : t.den} (f : fits (.pv d t x) e = true) : t = e := by cases e <;> simpa [fits] using f
/-- What lies at the path of a state. -/
theorem SVc.at : ∀ {v : SV} {e : Ty} {cs : List Value} {p : List Nat} {u : SV}, SVc h Zd β v cs → fits v e = true → svAt v p = some u → (p = [] ∨ ∃ τ, tyAt e p = some τ) →
  ∃ τ, tyAt e p = some τ ∧ SVc h Zd β u (seg cs (offAt e p) τ.sz)
 | v, e, cs, [], u, o, f, ea, _ => by
   rw [svAt_nil, Option.some.injEq] at ea; subst ea
   exact ⟨e, tyAt_nil e, by rw [offAt_nil, ← fits_sz f, ← o.len, seg_self]; exact o⟩
 | .consA a b, .pair x y, cs, 0 :: p, u, ⟨c1, c2, ec, o1, o2⟩, f, ea, ht => by
   simp only [fits, Bool.and_eq_true] at f
   obtain ⟨τ, h1, h2⟩ := SVc.at (p := p) o1 f.1 ea (.inr (ht.resolve_left (by simp)))
   have hl := offAt_le h1
   rw [← fits_sz f.1, ← o1.len] at hl
   exact ⟨τ, h1, by rw [ec]; simp only [offAt]; rw [seg_left hl]; exact h2⟩
 | .consA a b, .pair x y, cs, (n + 1) :: p, u, ⟨c1, c2, ec, o1, o2⟩, f, ea, ht => by
   simp only [fits, Bool.and_eq_true] at f
   obtain ⟨τ, h1, h2⟩ := SVc.at (p := n :: p) o2 f.2 ea (.inr (ht.resolve_left (by simp)))
   exact ⟨τ, h1, by rw [ec]; simp only [offAt]; rw [← fits_sz f.1, ← o1.len, seg_right]; exact h2⟩
 | .pv d t x, e, cs, k :: p, u, o, f, ea, _ => by
   have := fits_pv f; subst this
   have ea' : (getAt t x (k :: p)).map (fun s => SV.pv d s.1 s.2) = some u := by cases k <;> exact ea
   simp only [Option.map_eq_some_iff] at ea'
   obtain ⟨s, hs, rfl⟩ := ea'
   obtain ⟨h1, B', h2, h3⟩ := Own.at (show Own h (Zd d) t 0 [] cs x from o) hs
   refine ⟨s.1, h1, ?_⟩
   show Own h (Zd d) s.1 0 [] _ _
   have hB : B' = [] := h3.b0
   rw [hB] at h3; exact h3
 | .hole n, e, cs, k :: p, u, o, f, ea, _ => by cases k <;> simp [svAt] at ea
 | .nils, e, cs, k :: p, u, o, f, ea, _ => by cases k <;> simp [svAt] at ea
 | .ref _, e, cs, k :: p, u, o, f, ea, _ => by cases k <;> simp [svAt] at ea
 | .ad _ _ _ _, e, cs, k :: p, u, o, f, ea, _ => by cases k <;> simp [svAt] at ea
 | .fad _ _ _ _ _, e, cs, k :: p, u, o, f, ea, _ => by cases k <;> simp [svAt] at ea
 | .nilA, e, cs, k :: p, u, o, f, ea, _ => by cases k <;> simp [svAt] at ea
 | .nilI, e, cs, k :: p, u, o, f, ea, _ => by cases k <;> simp [svAt] at ea
 | .nilP, e, cs, k :: p, u, o, f, ea, _ => by cases k <;> simp [svAt] at ea
 | .nilM, e, cs, k :: p, u, o, f, ea, _ => by cases k <;> simp [svAt] at ea
 | .arp _ _ _, e, cs, k :: p, u, o, f, ea, _ => by cases k <;> simp [svAt] at ea
 | .vw _ _ _ _, e, cs, k :: p, u, o, f, ea, _ => by cases k <;> simp [svAt] at ea
 | .ifs _ _ _, e, cs, k :: p, u, o, f, ea, _ => by cases k <;> simp [svAt] at ea
 | .gl _, e, cs, k :: p, u, o, f, ea, _ => by cases k <;> simp [svAt] at ea
 | .fn _, e, cs, k :: p, u, o, f, ea, _ => by cases k <;> simp [svAt] at ea
 | .nilT, e, cs, k :: p, u, o, f, ea, _ => o.elim
 | .consT _ _, e, cs, k :: p, u, o, f, ea, _ => o.elim
 | .consA _ _, .unit, cs, k :: p, u, o, f, ea, _ => by cases f
 | .consA _ _, .int _, cs, k :: p, u, o, f, ea, _ => by cases f
 | .consA _ _, .bool, cs, k :: p, u, o, f, ea, _ => by cases f
 | .consA _ _, .str, cs, k :: p, u, o, f, ea, _ => by cases f
 | .consA _ _, .sl _, cs, k :: p, u, o, f, ea, _ => by cases f
 | .consA _ _, .any, cs, k :: p, u, o, f, ea, _ => by cases f
 | .consA _ _, .arr _ _, cs, k :: p, u, o, f, ea, _ => by cases f
 | .consA _ _, .mp _ _, cs, k :: p, u, o, f, ea, _ => by cases f
 | .consA _ _, .ptr _, cs, k :: p, u, o, f, ea, _ => by cases f
 | .consA _ _, .inil, cs, k :: p, u, o, f, ea, _ => by cases f
 | .consA _ _, .ialt _ _ _, cs, k :: p, u, o, f, ea, _ => by cases f
/-- A part of a state is put. -/
theorem SVc.put : ∀ {v : SV} {e : Ty} {cs : List Value} {p : List Nat} {u v' : SV} {vs : List Value} {τ : Ty}, SVc h Zd β v cs → fits v e = true → svSet v p u = some v' → SVc h Zd β u vs → tyAt e p = some τ →
  SVc h Zd β v' (splice cs (offAt e p) vs) ∧ vs.length = τ.sz
 | v, e, cs, [], u, v', vs, τ, o, f, es, o', ht => by
   have es' : (if u.sz = v.sz ∧ u.isAgg = v.isAgg then some u else none) = some v' := by cases v <;> exact es
   split at es'
   ·rename_i hc
    simp only [Option.some.injEq] at es'; subst es'
    rw [tyAt_nil, Option.some.injEq] at ht; subst ht
    have hl : vs.length = cs.length := by rw [o'.len, o.len, hc.1]
    have hsp : splice cs (offAt e []) vs = vs := by rw [offAt_nil]; unfold splice; simp [hl]
    exact ⟨by rw [hsp]; exact o', by rw [hl, o.len, fits_sz f]⟩
   ·cases es'
 | .consA a b, .pair x y, cs, 0 :: p, u, v', vs, τ, ⟨c1, c2, ec, o1, o2⟩, f, es, o', ht => by
   simp only [fits, Bool.and_eq_true] at f
   simp only [svSet, Option.map_eq_some_iff] at es
   obtain ⟨z, es, rfl⟩ := es
   obtain ⟨h1, h2⟩ := SVc.put (p := p) o1 f.1 es o' ht
   have hl : offAt x p + τ.sz ≤ x.sz := offAt_le (t := x) ht
   rw [← fits_sz f.1, ← o1.len, ← h2] at hl
   exact ⟨⟨_, c2, by rw [ec]; simp only [offAt]; rw [splice_left hl], h1, o2⟩, h2⟩
 | .consA a b, .pair x y, cs, (n + 1) :: p, u, v', vs, τ, ⟨c1, c2, ec, o1, o2⟩, f, es, o', ht => by
   simp only [fits, Bool.and_eq_true] at f
   simp only [svSet, Option.map_eq_some_iff] at es
   obtain ⟨z, es, rfl⟩ := es
   obtain ⟨h1, h2⟩ := SVc.put (p := n :: p) o2 f.2 es o' ht
   exact ⟨⟨c1, _, by rw [ec]; simp only [offAt]; rw [← fits_sz f.1, ← o1.len, splice_right], o1, h1⟩, h2⟩
 | .pv _ _ _, e, cs, k :: p, u, v', vs, τ, o, f, es, o', ht => by cases k <;> simp [svSet] at es
 | .hole n, e, cs, k :: p, u, v', vs, τ, o, f, es, o', ht => by cases k <;> simp [svSet] at es
 | .nils, e, cs, k :: p, u, v', vs, τ, o, f, es, o', ht => by cases k <;> simp [svSet] at es
 | .ref _, e, cs, k :: p, u, v', vs, τ, o, f, es, o', ht => by cases k <;> simp [svSet] at es
 | .ad _ _ _ _, e, cs, k :: p, u, v', vs, τ, o, f, es, o', ht => by cases k <;> simp [svSet] at es
 | .fad _ _ _ _ _, e, cs, k :: p, u, v', vs, τ, o, f, es, o', ht => by cases k <;> simp [svSet] at es
 | .nilA, e, cs, k :: p, u, v', vs, τ, o, f, es, o', ht => by cases k <;> simp [svSet] at es
 | .nilI, e, cs, k :: p, u, v', vs, τ, o, f, es, o', ht => by cases k <;> simp [svSet] at es
 | .nilP, e, cs, k :: p, u, v', vs, τ, o, f, es, o', ht => by cases k <;> simp [svSet] at es
 | .nilM, e, cs, k :: p, u, v', vs, τ, o, f, es, o', ht => by cases k <;> simp [svSet] at es
 | .arp _ _ _, e, cs, k :: p, u, v', vs, τ, o, f, es, o', ht => by cases k <;> simp [svSet] at es
 | .vw _ _ _ _, e, cs, k :: p, u, v', vs, τ, o, f, es, o', ht => by cases k <;> simp [svSet] at es
 | .ifs _ _ _, e, cs, k :: p, u, v', vs, τ, o, f, es, o', ht => by cases k <;> simp [svSet] at es
 | .gl _, e, cs, k :: p, u, v', vs, τ, o, f, es, o', ht => by cases k <;> simp [svSet] at es
 | .fn _, e, cs, k :: p, u, v', vs, τ, o, f, es, o', ht => by cases k <;> simp [svSet] at es
 | .nilT, e, cs, k :: p, u, v', vs, τ, o, f, es, o', ht => o.elim
 | .consT _ _, e, cs, k :: p, u, v', vs, τ, o, f, es, o', ht => o.elim
 | .consA _ _, .unit, cs, k :: p, u, v', vs, τ, o, f, es, o', ht => by cases f
 | .consA _ _, .int _, cs, k :: p, u, v', vs, τ, o, f, es, o', ht => by cases f
 | .consA _ _, .bool, cs, k :: p, u, v', vs, τ, o, f, es, o', ht => by cases f
 | .consA _ _, .str, cs, k :: p, u, v', vs, τ, o, f, es, o', ht => by cases f
 | .consA _ _, .sl _, cs, k :: p, u, v', vs, τ, o, f, es, o', ht => by cases f
 | .consA _ _, .any, cs, k :: p, u, v', vs, τ, o, f, es, o', ht => by cases f
 | .consA _ _, .arr _ _, cs, k :: p, u, v', vs, τ, o, f, es, o', ht => by cases f
 | .consA _ _, .mp _ _, cs, k :: p, u, v', vs, τ, o, f, es, o', ht => by cases f
 | .consA _ _, .ptr _, cs, k :: p, u, v', vs, τ, o, f, es, o', ht => by cases f
 | .consA _ _, .inil, cs, k :: p, u, v', vs, τ, o, f, es, o', ht => by cases f
 | .consA _ _, .ialt _ _ _, cs, k :: p, u, v', vs, τ, o, f, es, o', ht => by cases f
theorem SVc.one : ∀ {v : SV} {cs : List Value}, (∀ q, Eng.one (β q) = true) → noHole v = true → SVc h Zd β v cs → ∀ x ∈ cs, Eng.one x = true
 | .pv d t x, cs, hb, _, o, v, hv => Own.one (show Own h (Zd d) t 0 [] cs x from o) v hv
 | .nils, cs, hb, _, o, v, hv => by rw [show cs = _ from o] at hv; simp at hv; rw [hv]; rfl
 | .ref r, cs, hb, _, o, v, hv => by rw [show cs = [β r] from o] at hv; simp at hv; rw [hv]; exact hb r
 | .ad r e i p, cs, hb, _, ⟨_, _, _, o⟩, v, hv => by rw [o] at hv; simp at hv; rw [hv]; rfl
 | .fad d e xs i p, cs, hb, _, ⟨_, _, _, _, _, _, _, _, _, _, _, o⟩, v, hv => by rw [o] at hv; simp at hv; rw [hv]; rfl
 | .nilA, cs, hb, _, o, v, hv => by rw [show cs = [] from o] at hv; cases hv
 | .consA a b, cs, hb, hn, ⟨c1, c2, e, o1, o2⟩, v, hv => by
   simp only [noHole, Bool.and_eq_true] at hn
   rw [e] at hv
   rcases List.mem_append.1 hv with hv | hv
   ·exact SVc.one hb hn.1 o1 v hv
   ·exact SVc.one hb hn.2 o2 v hv
 | .hole n, cs, hb, hn, o, v, hv => by cases hn
 | .nilI, cs, hb, _, o, v, hv => by rw [show cs = _ from o] at hv; simp at hv; rw [hv]; rfl
 | .nilP, cs, hb, _, o, v, hv => by rw [show cs = _ from o] at hv; simp at hv; rw [hv]; rfl
 | .nilM, cs, hb, _, o, v, hv => by rw [show cs = _ from o] at hv; simp at hv; rw [hv]; rfl
 | .arp _ _ _, cs, hb, _, ⟨_, _, o⟩, v, hv => by rw [o] at hv; simp at hv; rw [hv]; rfl
 | .vw _ _ _ _, cs, hb, _, ⟨_, _, _, _, _, _, _, _, _, o⟩, v, hv => by rw [o] at hv; simp at hv; rw [hv]; rfl
 | .ifs _ _ _, cs, hb, _, ⟨_, o, _⟩, v, hv => by rw [o] at hv; simp at hv; rw [hv]; rfl
 | .gl _, cs, hb, _, o, v, hv => by rw [show cs = _ from o] at hv; simp at hv; rw [hv]; rfl
 | .fn _, cs, hb, _, o, v, hv => by rw [show cs = _ from o] at hv; simp at hv; rw [hv]; rfl
 | .nilT, cs, hb, hn, o, v, hv => o.elim
 | .consT _ _, cs, hb, hn, o, v, hv => o.elim
end
end
end Go.Proofs.YtmjeghlfmhbjdaaDoor.Eng

/- The engine, seventh part: the arithmetic as it is, and the operations that look at no memory. No condition. -/
namespace Go.Proofs.YtmjeghlfmhbjdaaDoor.Eng
open Go.RowKit
set_option linter.unusedVariables false
set_option linter.unusedSimpArgs false

noncomputable def rget {α γ : Type} : List (α × γ) → α → γ → γ
 | [], _, d => d
 | p :: l, k, d => @ite _ (p.1 = k) (Classical.propDecidable _) p.2 (rget l k d)
noncomputable def rput {α γ : Type} : List (α × γ) → α → γ → List (α × γ)
 | [], k, v => [(k, v)]
 | p :: l, k, v => @ite _ (p.1 = k) (Classical.propDecidable _) ((k, v) :: l) (p :: rput l k v)
noncomputable def rdel {α γ : Type} : List (α × γ) → α → List (α × γ)
 | [], _ => []
 | p :: l, k => @ite _ (p.1 = k) (Classical.propDecidable _) l (p :: rdel l k)
noncomputable def real : Mth where
 wrap := IntKind.wrap
 add x y := x + y
 sub x y := x - y
 mul x y := x * y
 quo := Int.tdiv
 rem := Int.tmod
 bit op k x y :=
  let a := BitVec.ofInt k.bits x
  let b := BitVec.ofInt k.bits y
  k.wrap (match op with | .and => a &&& b | .or => a ||| b | .xor => a ^^^ b | _ => a &&& ~~~b).toNat
 shl k x y := k.wrap (x * 2 ^ (min y.toNat k.bits))
 shr k x y := x.fdiv (2 ^ (min y.toNat k.bits))
 lt x y := x < y
 le x y := x ≤ y
 eq x y := x = y
 dec p := @decide p (Classical.propDecidable p)
 not := Bool.not
 same := fun a b => a == b
 or := Bool.or
 len := List.length
 get xs i d := xs.getD i.toNat d
 set xs i y := xs.set i.toNat y
 app xs ys := xs ++ ys
 cut xs lo hi := (xs.drop lo.toNat).take (hi.toNat - lo.toNat)
 rep n x := List.replicate n.toNat x
 ofN n := (n : Int)
 room xs ys := xs.length + ys.length ≤ 2 ^ 36
 makes n := 0 ≤ n ∧ n ≤ 2 ^ 36
 sEq a b := a.toList == b.toList
 sLt a b := Op.bytesLess a.toList b.toList
 sLen s := (s.size : Int)
 sGet s i := (((s[i.toNat]?).map fun b => (b.toNat : Int)).getD 0)
 sCut s lo hi := s.extract lo.toNat hi.toNat
 sApp a b := a ++ b
 sRoom a b := a.size + b.size ≤ maxL
 toB s := s.data.toList.map fun b => (b.toNat : Int)
 ofB l := ⟨(l.map fun x => UInt8.ofNat x.toNat).toArray⟩
 maxI x y := if y > x then y else x
 minI x y := if y < x then y else x
 rune s p := ((Utf8.decode s p.toNat).1 : Int)
 runeW s p := ((Utf8.decode s p.toNat).2 : Int)
 mget := rget
 mhas xs k := k ∈ xs.map (·.1)
 mput := rput
 mdel := rdel
 isN x := x = none
 val x d := x.getD d
 over xs lo ys := xs.take lo.toNat ++ ys ++ xs.drop (lo.toNat + ys.length)
 same2 xs ys := xs = ys
 bytes v n := (List.range n.toNat).map fun i => v / 2 ^ (8 * i) % 256
theorem dec_iff {p : Prop} : real.dec p = true ↔ p := by unfold real; simp
theorem dec_eq {p : Prop} {b : Bool} (h : b = true ↔ p) : real.dec p = b := by rw [Bool.eq_iff_iff, dec_iff, h]

section
variable {P : Program} {Bb : Nat → Prop} {w0 : World} {O0 : List Nat} {av : List Value} {Γ Γ' : Ctx} {a : Act} {w w' : World} {β : Nat → Value} {F : Nat → List Nat} {K : Ctx → Prop} {o : Oper} {Q : Exit → Act → World → Prop}
/-- What is to hold next. -/
def Nx (Bb : Nat → Prop) (w0 : World) (O0 : List Nat) (av : List Value) (K : Ctx → Prop) (a : Act) (w : World) : Prop := ∃ Γ' β F, K Γ' ∧ Sim Bb w0 O0 av Γ' a w β F
theorem wp_value {x : Value} {N : Act → World → Prop} (h : (execOp a.eval o).run P w = .ok (.value x) w') (hn : N (a.put o.dst x) w') : o.wp P a w N Q := by
 unfold Oper.wp; rw [h]; exact hn
theorem wp_skip' {N : Act → World → Prop} (h : (execOp a.eval o).run P w = .ok .skip w') (hn : N (a.put o.dst undef) w') : o.wp P a w N Q := by
 unfold Oper.wp; rw [h]; exact hn
theorem run_v {s : Sem Value} {x : Value} (h : s.run P w = .ok x w') : (do pure (Next.value (← s)) : Sem Next).run P w = .ok (.value x) w' := by
 show (Sem.bind _ _).run P w = _
 rw [run_bind_ok h]; rfl
/-- The operation yields a value and leaves the world as it is. -/
def Reads (P : Program) (o : Oper) (a : Act) (w : World) (N : Act → World → Prop) : Prop := ∃ x, (execOp a.eval o).run P w = .ok (.value x) w ∧ N (a.put o.dst x) w
theorem Reads.wp {N : Act → World → Prop} (h : Reads P o a w N) : o.wp P a w N Q := by
 obtain ⟨x, h1, h2⟩ := h
 exact wp_value h1 h2
/-- A value goes into the operation's slot; the world stays. -/
theorem go_value {x : Value} {v : SV} (S : Sim Bb w0 O0 av Γ a w β F) (h : (execOp a.eval o).run P w = .ok (.value x) w) (hv : SlotR (hp w) (ZdOf Bb F Γ.roots) β v x) (hk : Γ.on o.dst v K) : Reads P o a w (Nx Bb w0 O0 av K) := by
 unfold Ctx.on at hk
 split at hk
 ·rename_i Γ' e; exact ⟨x, h, Γ', β, F, hk, S.put hv e⟩
 ·exact hk.elim
theorem slot_pv {h : Hp} {Zd : List Nat → Nat → Prop} {d : List Nat} {t : Ty} {y : t.den} {x : Value} (s : SlotR h Zd β (.pv d t y) x) : ∃ cs, Own h (Zd d) t 0 [] cs y ∧ x = valOf t.agg cs := by
 rcases s with ⟨e, _⟩ | ⟨_, s⟩
 ·cases e
 ·rcases s with ⟨n, e⟩ | ⟨cs, s, e⟩
  ·cases e
  ·exact ⟨cs, s, e⟩
theorem slot_int {h : Hp} {Zd : List Nat → Nat → Prop} {d : List Nat} {k : IntKind} {y : Int} {x : Value} (s : SlotR h Zd β (.pv d (.int k) y) x) : x = .int k y ∧ InK k y := by
 obtain ⟨cs, ⟨_, rfl, h2⟩, h3⟩ := slot_pv s; exact ⟨h3, h2⟩
theorem slot_bool {h : Hp} {Zd : List Nat → Nat → Prop} {d : List Nat} {y : Bool} {x : Value} (s : SlotR h Zd β (.pv d .bool y) x) : x = .bool y := by
 obtain ⟨cs, ⟨_, rfl⟩, h3⟩ := slot_pv s; exact h3
theorem slot_str {h : Hp} {Zd : List Nat → Nat → Prop} {d : List Nat} {y : ByteArray} {x : Value} (s : SlotR h Zd β (.pv d .str y) x) : x = .string y ∧ y.size ≤ maxL := by
 obtain ⟨cs, ⟨_, rfl, h2⟩, h3⟩ := slot_pv s; exact ⟨h3, h2⟩
theorem mk_int {h : Hp} {Zd : List Nat → Nat → Prop} {d : List Nat} {k : IntKind} {y : Int} (hk : InK k y) : SlotR h Zd β (.pv d (.int k) y) (.int k y) := slot_c (v := .pv d (.int k) y) (cs := [.int k y]) rfl ⟨rfl, rfl, hk⟩
theorem mk_bool {h : Hp} {Zd : List Nat → Nat → Prop} {d : List Nat} {y : Bool} : SlotR h Zd β (.pv d .bool y) (.bool y) := slot_c (v := .pv d .bool y) (cs := [.bool y]) rfl ⟨rfl, rfl⟩
theorem mk_str {h : Hp} {Zd : List Nat → Nat → Prop} {d : List Nat} {y : ByteArray} (hk : y.size ≤ maxL) : SlotR h Zd β (.pv d .str y) (.string y) := slot_c (v := .pv d .str y) (cs := [.string y]) rfl ⟨rfl, rfl, hk⟩
theorem inK_wrap (k : IntKind) (n : Int) : InK k (k.wrap n) := by
 have e8 : (2 ^ 8 : Int) = 256 := by decide
 have e7 : (2 ^ (8 - 1) : Int) = 128 := by decide
 have e16 : (2 ^ 16 : Int) = 65536 := by decide
 have e15 : (2 ^ (16 - 1) : Int) = 32768 := by decide
 have e32 : (2 ^ 32 : Int) = 4294967296 := by decide
 have e31 : (2 ^ (32 - 1) : Int) = 2147483648 := by decide
 have e64 : (2 ^ 64 : Int) = 18446744073709551616 := by decide
 have e63 : (2 ^ (64 - 1) : Int) = 9223372036854775808 := by decide
 unfold InK IntKind.min IntKind.max IntKind.wrap
 cases k <;> simp only [IntKind.signed, IntKind.bits, e8, e7, e16, e15, e32, e31, e64, e63, Bool.true_and, Bool.false_and, if_true, if_false, Bool.false_eq_true, decide_eq_true_eq] <;> (try split) <;> omega
theorem inK_tmod {k : IntKind} {x y : Int} (hx : InK k x) (hy : InK k y) : InK k (x.tmod y) := by
 have h1 : -(x.natAbs : Int) ≤ x.tmod y ∧ x.tmod y ≤ x.natAbs ∧ (0 ≤ x → 0 ≤ x.tmod y) ∧ (x ≤ 0 → x.tmod y ≤ 0) := by
  have h3 : (x.tmod y).natAbs ≤ x.natAbs := by rw [Int.natAbs_tmod]; exact Nat.mod_le _ _
  refine ⟨by omega, by omega, fun h => Int.tmod_nonneg _ h, fun h => ?_⟩
  have : 0 ≤ (-x).tmod y := Int.tmod_nonneg _ (by omega)
  rw [Int.neg_tmod] at this; omega
 unfold InK IntKind.min IntKind.max at *
 cases k <;> simp only [IntKind.signed, IntKind.bits, if_true, if_false, Bool.false_eq_true] at * <;> omega
theorem inK_fdiv {k : IntKind} {x : Int} (hx : InK k x) (n : Nat) : InK k (x.fdiv (2 ^ n)) := by
 have hp : (0 : Int) < 2 ^ n := Int.pow_pos (by decide)
 have h1 : (0 ≤ x → 0 ≤ x.fdiv (2 ^ n)) ∧ (x ≤ 0 → x.fdiv (2 ^ n) ≤ 0) ∧ x.fdiv (2 ^ n) ≤ max x 0 ∧ min x 0 ≤ x.fdiv (2 ^ n) := by
  rw [Int.fdiv_eq_ediv_of_nonneg _ (Int.le_of_lt hp)]
  have hd := Int.ediv_mul_add_emod x (2 ^ n)
  have hm := Int.emod_nonneg x (Int.ne_of_gt hp)
  have hl := Int.emod_lt_of_pos x hp
  generalize he : x / 2 ^ n = q at *
  generalize x % 2 ^ n = r at *
  have h2 : (1 : Int) ≤ 2 ^ n := by omega
  generalize (2 : Int) ^ n = m at *
  refine ⟨fun h => ?_, fun h => ?_, ?_, ?_⟩
  ·exact he ▸ Int.ediv_nonneg h (by omega)
  ·rcases Int.lt_or_le 0 q with hq | hq
   ·have : 1 * m ≤ q * m := Int.mul_le_mul_of_nonneg_right (by omega) (by omega)
    omega
   ·exact hq
  ·rcases Int.lt_or_le 0 q with hq | hq
   ·have : q * 1 ≤ q * m := Int.mul_le_mul_of_nonneg_left h2 (by omega)
    omega
   ·omega
  ·rcases Int.lt_or_le q 0 with hq | hq
   ·have h5 : q * m ≤ q * 1 := Int.mul_le_mul_of_nonpos_left (by omega) h2
    rcases Int.lt_or_le q x with h7 | h7
    ·have h8 : (q + 1) * m ≤ (q + 1) * 1 := Int.mul_le_mul_of_nonpos_left (by omega) h2
     rw [Int.add_mul] at h8; omega
    ·omega
   ·omega
 unfold InK IntKind.min IntKind.max at *
 cases k <;> simp only [IntKind.signed, IntKind.bits, if_true, if_false, Bool.false_eq_true] at * <;> omega
end
/-! ### the binary operations -/
section
variable {t : TypeId} {k : IntKind} {a b : Int}
theorem b_add : binOp .add t (.int k a) (.int k b) = pure (.int k (k.wrap (a + b))) := by simp [binOp, Op.intArith]
theorem b_sub : binOp .sub t (.int k a) (.int k b) = pure (.int k (k.wrap (a - b))) := by simp [binOp, Op.intArith]
theorem b_mul : binOp .mul t (.int k a) (.int k b) = pure (.int k (k.wrap (a * b))) := by simp [binOp, Op.intArith]
theorem b_quo (h : b ≠ 0) : binOp .quo t (.int k a) (.int k b) = pure (.int k (k.wrap (a.tdiv b))) := by simp [binOp, Op.intDiv, h]
theorem b_rem (h : b ≠ 0) : binOp .rem t (.int k a) (.int k b) = pure (.int k (a.tmod b)) := by simp [binOp, Op.intDiv, h]
theorem b_and : binOp .and t (.int k a) (.int k b) = pure (.int k (real.bit .and k a b)) := by simp [binOp, Op.intBits, real]
theorem b_or : binOp .or t (.int k a) (.int k b) = pure (.int k (real.bit .or k a b)) := by simp [binOp, Op.intBits, real]
theorem b_xor : binOp .xor t (.int k a) (.int k b) = pure (.int k (real.bit .xor k a b)) := by simp [binOp, Op.intBits, real]
theorem b_andNot : binOp .andNot t (.int k a) (.int k b) = pure (.int k (real.bit .andNot k a b)) := by simp [binOp, Op.intBits, real]
theorem b_eql : binOp .eql t (.int k a) (.int k b) = pure (.bool (real.dec (a = b))) := by rw [dec_eq (b := (a == b)) (by simp)]; simp [binOp, Op.intCmp]
theorem b_neq : binOp .neq t (.int k a) (.int k b) = pure (.bool (!real.dec (a = b))) := by rw [dec_eq (b := (a == b)) (by simp)]; simp [binOp, Op.intCmp]; rfl
theorem b_lss : binOp .lss t (.int k a) (.int k b) = pure (.bool (real.dec (a < b))) := by rw [dec_eq (b := decide (a < b)) (by simp)]; simp [binOp, Op.intCmp]
theorem b_leq : binOp .leq t (.int k a) (.int k b) = pure (.bool (real.dec (a ≤ b))) := by rw [dec_eq (b := decide (a ≤ b)) (by simp)]; simp [binOp, Op.intCmp]
theorem b_gtr : binOp .gtr t (.int k a) (.int k b) = pure (.bool (real.dec (b < a))) := by rw [dec_eq (b := decide (a > b)) (by simp)]; simp [binOp, Op.intCmp]
theorem b_geq : binOp .geq t (.int k a) (.int k b) = pure (.bool (real.dec (b ≤ a))) := by rw [dec_eq (b := decide (a ≥ b)) (by simp)]; simp [binOp, Op.intCmp]
theorem b_shl {j : IntKind} (h : 0 ≤ b) : binOp .shl t (.int k a) (.int j b) = pure (.int k (k.wrap (a * 2 ^ (min b.toNat k.bits)))) := by simp [binOp, Op.shift, Int.not_lt.2 h]
theorem b_shr {j : IntKind} (h : 0 ≤ b) : binOp .shr t (.int k a) (.int j b) = pure (.int k (a.fdiv (2 ^ (min b.toNat k.bits)))) := by simp [binOp, Op.shift, Int.not_lt.2 h]
end
section
variable {P : Program} {w : World} {β : Nat → Value}
theorem run_pure {α : Type} {x : α} : (pure x : Sem α).run P w = .ok x w := rfl
theorem run_eq {s s' : Sem Value} {z : Value} (e : s = s') (h : s'.run P w = .ok z w) : s.run P w = .ok z w := by rw [e]; exact h
theorem run_bin {op : BinOp} {A B : SV} {x y : Value} {t : TypeId} {oa ob : Operand} {h : Hp} {Zd : List Nat → Nat → Prop} (ha : SlotR h Zd β A x) (hb : SlotR h Zd β B y) {KK : SV → Prop} (hk : bin real op A B KK) :
  ∃ v z, KK v ∧ SlotR h Zd β v z ∧ (do eqGuard op t oa ob x y; binOp op t x y : Sem Value).run P w = .ok z w := by
 have gi : ∀ k j a b, (eqGuard op t oa ob (.int k a) (.int j b)).run P w = .ok () w := by intro k j a b; unfold eqGuard; cases op <;> rfl
 have gs : ∀ a b, (eqGuard op t oa ob (.string a) (.string b)).run P w = .ok () w := by intro a b; unfold eqGuard; cases op <;> rfl
 unfold bin at hk
 split at hk
 ·rename_i d1 k a d2 j b
  obtain ⟨rfl, ia⟩ := slot_int ha
  obtain ⟨rfl, ib⟩ := slot_int hb
  rw [run_bind (gi k j a b)]
  clear gi gs
  split at hk
  ·exact ⟨_, _, hk.2, mk_int (inK_wrap k _), run_eq (b_shl hk.1) rfl⟩
  ·exact ⟨_, _, hk.2, mk_int (inK_fdiv ia _), run_eq (b_shr hk.1) rfl⟩
  ·split at hk
   ·rename_i hkj; subst hkj
    rename_i op' n1 n2
    clear n1 n2
    cases op <;> (try simp only [intBin, cmp] at hk)
    case add => exact ⟨_, _, hk, mk_int (inK_wrap k _), run_eq b_add rfl⟩
    case sub => exact ⟨_, _, hk, mk_int (inK_wrap k _), run_eq b_sub rfl⟩
    case mul => exact ⟨_, _, hk, mk_int (inK_wrap k _), run_eq b_mul rfl⟩
    case quo => exact ⟨_, _, hk.2, mk_int (inK_wrap k _), run_eq (b_quo fun e => hk.1 e) rfl⟩
    case rem => exact ⟨_, _, hk.2, mk_int (inK_tmod ia ib), run_eq (b_rem fun e => hk.1 e) rfl⟩
    case and => exact ⟨_, _, hk, mk_int (inK_wrap k _), run_eq b_and rfl⟩
    case or => exact ⟨_, _, hk, mk_int (inK_wrap k _), run_eq b_or rfl⟩
    case xor => exact ⟨_, _, hk, mk_int (inK_wrap k _), run_eq b_xor rfl⟩
    case andNot => exact ⟨_, _, hk, mk_int (inK_wrap k _), run_eq b_andNot rfl⟩
    case eql => exact ⟨_, _, hk, mk_bool, run_eq b_eql rfl⟩
    case neq => exact ⟨_, _, hk, mk_bool, run_eq b_neq rfl⟩
    case lss => exact ⟨_, _, hk, mk_bool, run_eq b_lss rfl⟩
    case leq => exact ⟨_, _, hk, mk_bool, run_eq b_leq rfl⟩
    case gtr => exact ⟨_, _, hk, mk_bool, run_eq b_gtr rfl⟩
    case geq => exact ⟨_, _, hk, mk_bool, run_eq b_geq rfl⟩
    all_goals exact hk.elim
   ·exact hk.elim
 ·rename_i d1 a d2 b
  obtain ⟨rfl, ia⟩ := slot_str ha
  obtain ⟨rfl, ib⟩ := slot_str hb
  rw [run_bind (gs a b)]
  have nb : binOp op t (.string a) (.string b) = Op.stringOp op a b := by unfold binOp; cases op <;> rfl
  rw [nb]
  clear gi gs nb
  cases op <;> simp only [] at hk
  case add =>
   obtain ⟨hr, hk⟩ := hk
   have hr' : a.size + b.size ≤ maxL := hr
   refine ⟨_, _, hk, mk_str (y := a ++ b) (by rw [ByteArray.size_append]; exact hr'), ?_⟩
   unfold Op.stringOp
   simp only []
   rw [if_neg (by unfold maxL at hr'; unfold IntKind.max; simp only [IntKind.signed, IntKind.bits, if_true]; omega)]; rfl
  case eql => exact ⟨_, _, hk, mk_bool, rfl⟩
  case neq => exact ⟨_, _, hk, mk_bool, rfl⟩
  case lss => exact ⟨_, _, hk, mk_bool, rfl⟩
  case geq => exact ⟨_, _, hk, mk_bool, rfl⟩
  case leq => exact ⟨_, _, hk, mk_bool, rfl⟩
  case gtr => exact ⟨_, _, hk, mk_bool, rfl⟩
  all_goals exact hk.elim
 ·exact hk.elim
end
end Go.Proofs.YtmjeghlfmhbjdaaDoor.Eng

/- The engine, eighth part: the operations one by one: addresses, loads, stores. No condition. -/
namespace Go.Proofs.YtmjeghlfmhbjdaaDoor.Eng
open Go.RowKit
set_option linter.unusedVariables false
set_option linter.unusedSimpArgs false

/-! ### what the machine does -/
section
variable (M : Mth) (T : Tab) (Γ : Ctx) (d : Option Nat) (K : Ctx → Prop)
def opIndexAddr (t : TypeId) (x i : SV) : Prop :=
 match T.ty t, i with
 | some (.sl e), .pv _ (.int _) n => match x with
  | .pv dp (.sl f) xs => if e = f then M.le 0 n ∧ M.lt n (M.ofN (M.len xs)) ∧ Γ.on d (.fad dp f xs n []) K else False
  | .ref r => match look r Γ.roots with
   | some (.row _ f xs) => if e = f then M.le 0 n ∧ M.lt n (M.ofN (M.len xs)) ∧ Γ.on d (.ad r f n []) K else False
   | _ => False
  | _ => False
 | _, _ => False
def opFieldAddr (t : TypeId) (x : SV) (n : Nat) : Prop :=
 match T.ty t with
 | none => False
 | some s => match tyAt s [n] with
  | none => False
  | some u => if u.sz = 0 then False else match x with
   | .fad dp e xs i p => if tyAt e p = some s then Γ.on d (.fad dp e xs i (p ++ [n])) K else False
   | .ad r e i p => if tyAt e p = some s then Γ.on d (.ad r e i (p ++ [n])) K else False
   | _ => False
def opLoad (t : TypeId) (x : SV) : Prop :=
 match T.ty t with
 | none => False
 | some u => match x with
  | .fad dp e xs i p => match getAt e (M.get xs i e.zero) p with
   | some s => if s.1 = u then Γ.on d (.pv (if s.1.hasSl then dp else []) s.1 s.2) K else False
   | none => False
  | .ad r e i p => match look r Γ.roots with
   | some (.row lvl f xs) => if f = e then M.le 0 i ∧ M.lt i (M.ofN (M.len xs)) ∧ match getAt f (M.get xs i f.zero) p with
     | some s => if s.1 = u then Γ.on d (.pv (if s.1.hasSl then (match lvl with | 0 => [] | _ => [r]) else []) s.1 s.2) K else False
     | none => False
    else False
   | some (.box v) => if fits v e = true ∧ i = 0 ∧ tyAt e p = some u then match svAt v p with
     | some s => if s.isAgg = u.agg then Γ.on d s K else False
     | none => False
    else False
   | _ => False
  | _ => False
def opStore (t : TypeId) (x v : SV) : Prop :=
 match T.ty t with
 | none => False
 | some u => match x with
  | .ad r e i p => match look r Γ.roots with
   | some (.row lvl f xs) => if f = e ∧ tyAt e p = some u ∧ (u.hasSl = false ∨ lvl = 0) then M.le 0 i ∧ M.lt i (M.ofN (M.len xs)) ∧ match den0 Γ.roots u v with
     | some y => match y.2 with
      | [] => match setAt f (M.get xs i f.zero) p ⟨u, y.1⟩ with
       | some z => K ((Γ.map (killD r)).set r (.row lvl f (M.set xs i z)))
       | none => False
      | _ => False
     | none => False
    else False
   | some (.box b) => if fits (killD r b) e = true ∧ i = 0 ∧ tyAt e p = some u ∧ noHole (killD r v) = true ∧ (killD r v).isAgg = u.agg ∧ v.tup = false then match svSet (killD r b) p (killD r v) with
     | some b' => K ((Γ.map (killD r)).set r (.box b'))
     | none => False
    else False
   | _ => False
  | _ => False
/-- what is appended -/
def srcOf (e : Ty) (t : TypeId) (y : SV) : Option (List e.den × List Nat) :=
 match T.ty t, y with
 | some (.sl _), y => den0 Γ.roots (.sl e) y
 | some .str, .pv _ .str s => (as (.sl e) ⟨.sl (.int .u8), M.toB s⟩).map fun z => (z, [])
 | _, _ => none
def opAppend (ts : List TypeId) (x y : SV) : Prop :=
 match ts with
 | [t, t2] => match T.ty t with
  | some (.sl e) => match srcOf M T Γ e t2 y with
   | some ys => if e.hasSl = true ∧ isD ys.2 = false then False else match x with
    | .ref r => match look r Γ.roots with
     | some (.row lvl f xs) => match as (.sl f) ⟨.sl e, ys.1⟩ with
      | some zs => if (lvl = 0 ∨ f.hasSl = false) then M.room xs zs ∧ ((Γ.map (kill r)).set r (.row lvl f (M.app xs zs))).on d (.ref r) K else False
      | none => False
     | _ => False
    | .nils => if has Γ.new Γ.roots = false ∧ (T.lv t = 0 ∨ e.hasSl = false) then M.room ([] : List e.den) ys.1 ∧ ((Γ.map (kill Γ.new)).add Γ.new (.row (T.lv t) e ys.1)).on d (.ref Γ.new) K else False
    | _ => False
   | none => False
  | _ => False
 | _ => False
end

section
variable {P : Program} {T : Tab} {Bb : Nat → Prop} {w0 : World} {O0 : List Nat} {av : List Value} {Γ Γ' : Ctx} {a : Act} {w w' : World} {β : Nat → Value} {F : Nat → List Nat} {K : Ctx → Prop} {o : Oper} {Q : Exit → Act → World → Prop}
theorem slot_one {h : Hp} {Zd : List Nat → Nat → Prop} {v : SV} {x : Value} (s : SlotR h Zd β v x) (ht : v.tup = false) (hh : ∀ n, v ≠ .hole n) : ∃ cs, SVc h Zd β v cs ∧ x = valOf v.isAgg cs := by
 rcases s with ⟨e, _⟩ | ⟨_, s⟩
 ·rw [ht] at e; cases e
 ·rcases s with ⟨n, e⟩ | s
  ·exact absurd e (hh n)
  ·exact s
theorem run_index {e : Ty} {t te : TypeId} (hu : P.underlying t = some (.slice te)) (he : TyOk P e te) {b o len cap : Nat} {k : IntKind} {n : Int} (h0 : 0 ≤ n) (h1 : n < len) :
  (Instr.indexAt t (.slice (some ⟨b, o, none⟩) len cap) (.int k n)).run P w = .ok (.pointer (some ⟨b, o + n.toNat * e.sz, none⟩)) w := by
 unfold Instr.indexAt
 show (Sem.bind _ _).run P w = _
 rw [run_bind_ok (s := asIntOf (.int k n)) (x := (k, n)) rfl]
 show (Sem.bind _ _).run P w = _
 rw [run_bind_ok (run_under hu)]
 show (Sem.bind _ _).run P w = _
 rw [run_bind_ok (s := pure (some (⟨b, o, none⟩ : Addr), len, te)) (x := (some (⟨b, o, none⟩ : Addr), len, te)) rfl]
 show (Sem.bind _ _).run P w = _
 rw [run_bind_ok (run_under hu)]
 simp only [h0, h1, and_self, if_true]
 show (Sem.bind _ _).run P w = _
 rw [run_bind_ok (run_size he.info), add_none]; rfl
theorem ne_nil_of_lt {α : Type} {xs : List α} {n : Int} (h0 : 0 ≤ n) (h : n < xs.length) : xs ≠ [] := by rintro rfl; simp at h; omega
theorem sound_indexAddr (hT : TabOk P T) (S : Sim Bb w0 O0 av Γ a w β F) {t : TypeId} {x i : Operand} (ho : o.op = .indexAddr t x i) (hk : opIndexAddr real T Γ o.dst K t (Γ.eval x) (Γ.eval i)) : Reads P o a w (Nx Bb w0 O0 av K) := by
 have hx := S.eval x
 have hi := S.eval i
 have hrun : ∀ z, (Instr.indexAt t (a.eval x) (a.eval i)).run P w = .ok z w → (execOp a.eval o).run P w = .ok (.value z) w := fun z hz => by unfold execOp; rw [ho]; exact run_v hz
 unfold opIndexAddr at hk
 split at hk
 ·rename_i e dd k n ht hie
  rw [hie] at hi
  obtain ⟨ei, ki⟩ := slot_int hi
  obtain ⟨te, hu, he⟩ := (hT.ty _ _ ht).slice
  split at hk
  ·rename_i dp f xs hxe
   rw [hxe] at hx
   split at hk
   ·rename_i hef; subst hef
    obtain ⟨h0, h1, hk⟩ := hk
    have h0' : 0 ≤ n := h0
    have h1' : n < xs.length := h1
    obtain ⟨cs, ⟨A, c, ec, l1, l2, _, r⟩, ex⟩ := slot_pv hx
    subst ec
    obtain ⟨b, off, arr, ty, fz, rfl, hz, hb, hl, hr⟩ := r (ne_nil_of_lt h0' h1')
    have ex' : a.eval x = .slice (some ⟨b, off, none⟩) xs.length c := ex
    refine go_value S (hrun _ (by rw [ex', ei]; exact run_index hu he h0' h1')) (slot_c (v := .fad dp e xs n []) (cs := [.pointer (some ⟨b, off + n.toNat * e.sz, none⟩)]) rfl ⟨h0', h1', b, off, arr, ty, fz, hz, hb, hl, hr, by rw [offAt_nil]; rfl⟩) hk
   ·exact hk.elim
  ·rename_i r hxe
   rw [hxe] at hx
   split at hk
   ·rename_i lvl f xs hr
    split at hk
    ·rename_i hef; subst hef
     obtain ⟨h0, h1, hk⟩ := hk
     have h0' : 0 ≤ n := h0
     have h1' : n < xs.length := h1
     obtain ⟨cs, ec, ex⟩ := slot_one hx rfl (by simp)
     have ec' : cs = [β r] := ec
     subst ec'
     obtain ⟨A, c, eb, l1, l2, q⟩ := S.roots r _ (look_mem hr)
     simp only [List.cons.injEq, and_true] at eb
     have ex' : a.eval x = β r := ex
     rcases q with ⟨_, _, q, _⟩ | ⟨b, off, arr, ty, Bs, rfl, hb, hl, hB, hn, hq⟩
     ·exact absurd q (ne_nil_of_lt h0' h1')
     ·refine go_value S (hrun _ (by rw [ex', ei, eb]; exact run_index hu he h0' h1')) (slot_c (v := .ad r e n []) (cs := [.pointer (some ⟨b, off + n.toNat * e.sz, none⟩)]) rfl ⟨b, off, by rw [eb]; rfl, by rw [offAt_nil]; rfl⟩) hk
    ·exact hk.elim
   ·exact hk.elim
  ·exact hk.elim
 ·exact hk.elim
theorem run_field {τ u : Ty} {t : TypeId} {n : Nat} (ht : TyOk P τ t) (hu : tyAt τ [n] = some u) (hz : u.sz ≠ 0) {b o : Nat} :
  (Instr.fieldAt t (.pointer (some ⟨b, o, none⟩)) n).run P w = .ok (.pointer (some ⟨b, o + offAt τ [n], none⟩)) w := by
 obtain ⟨fs, f, h1, h2, h3, h4⟩ := ht.field hu
 unfold Instr.fieldAt
 show (Sem.bind _ _).run P w = _
 rw [run_bind_ok (run_under h1)]
 simp only [h2]
 show (Sem.bind _ _).run P w = _
 rw [run_bind_ok (s := Instr.sureAddr _) (x := (⟨b, o, none⟩ : Addr)) rfl]
 show (Sem.bind _ _).run P w = _
 have : (fieldPlace ⟨b, o, none⟩ f).run P w = .ok ⟨b, o + offAt τ [n], none⟩ w := by
  unfold fieldPlace
  show (Sem.bind _ _).run P w = _
  rw [run_bind_ok (run_size h4.info), if_neg hz, h3, add_none]; rfl
 rw [run_bind_ok this]; rfl
theorem sound_fieldAddr (hT : TabOk P T) (S : Sim Bb w0 O0 av Γ a w β F) {t : TypeId} {x : Operand} {n : Nat} (ho : o.op = .fieldAddr t x n) (hk : opFieldAddr T Γ o.dst K t (Γ.eval x) n) : Reads P o a w (Nx Bb w0 O0 av K) := by
 have hx := S.eval x
 have hrun : ∀ z, (Instr.fieldAt t (a.eval x) n).run P w = .ok z w → (execOp a.eval o).run P w = .ok (.value z) w := fun z hz => by unfold execOp; rw [ho]; exact run_v hz
 unfold opFieldAddr at hk
 split at hk
 ·exact hk.elim
 rename_i s hs
 split at hk
 ·exact hk.elim
 rename_i u hu
 split at hk
 ·exact hk.elim
 rename_i hz
 split at hk
 ·rename_i dp e xs i p hxe
  rw [hxe] at hx
  split at hk
  ·rename_i hp
   obtain ⟨cs, ⟨h0, h1, b, off, arr, ty, fz, hzd, hb, hl, hr, ec⟩, ex⟩ := slot_one hx rfl (by simp)
   subst ec
   have ex' : a.eval x = .pointer (some ⟨b, off + i.toNat * e.sz + offAt e p, none⟩) := ex
   refine go_value S (hrun _ (by rw [ex']; exact run_field (hT.ty _ _ hs) hu hz)) (slot_c (v := .fad dp e xs i (p ++ [n])) (cs := [.pointer (some ⟨b, off + i.toNat * e.sz + offAt e p + offAt s [n], none⟩)]) rfl ⟨h0, h1, b, off, arr, ty, fz, hzd, hb, hl, hr, ?_⟩) hk
   rw [(tyAt_app (q := [n]) hp).2, Nat.add_assoc]
  ·exact hk.elim
 ·rename_i r e i p hxe
  rw [hxe] at hx
  split at hk
  ·rename_i hp
   obtain ⟨cs, ⟨b, off, hb, ec⟩, ex⟩ := slot_one hx rfl (by simp)
   subst ec
   have ex' : a.eval x = .pointer (some ⟨b, off + i.toNat * e.sz + offAt e p, none⟩) := ex
   refine go_value S (hrun _ (by rw [ex']; exact run_field (hT.ty _ _ hs) hu hz)) (slot_c (v := .ad r e i (p ++ [n])) (cs := [.pointer (some ⟨b, off + i.toNat * e.sz + offAt e p + offAt s [n], none⟩)]) rfl ⟨b, off, hb, ?_⟩) hk
   rw [(tyAt_app (q := [n]) hp).2, Nat.add_assoc]
  ·exact hk.elim
 ·exact hk.elim
theorem run_loadAt {τ : Ty} {t : TypeId} (ht : TyOk P τ t) {b o : Nat} {arr : Array Value} {ty : TypeId} {fz : Nat × Nat} (hb : w.heap[b]? = some (.cells arr ty fz)) (h : o + τ.sz ≤ arr.size) :
  (Instr.loadAt t (.pointer (some ⟨b, o, none⟩))).run P w = .ok (valOf τ.agg (seg arr.toList o τ.sz)) w := by
 unfold Instr.loadAt
 show (Sem.bind _ _).run P w = _
 rw [run_bind_ok (s := Instr.sureAddr _) (x := (⟨b, o, none⟩ : Addr)) rfl]
 exact run_loadVar ht hb h
theorem getD_some {α : Type} {xs : List α} {n : Int} {d : α} (h0 : 0 ≤ n) (h : n < xs.length) : xs[n.toNat]? = some (xs.getD n.toNat d) := by
 have : n.toNat < xs.length := by omega
 simp [List.getD_eq_getElem?_getD, this]
theorem fit_row {off sz n : Nat} {i : Int} {L o m : Nat} (h0 : 0 ≤ i) (h1 : i < n) (hl : off + n * sz ≤ L) (ho : o + m ≤ sz) : off + i.toNat * sz + o + m ≤ L := by
 have : (i.toNat + 1) * sz ≤ n * sz := Nat.mul_le_mul_right _ (by omega)
 rw [Nat.add_mul] at this; omega
theorem sound_load (hT : TabOk P T) (S : Sim Bb w0 O0 av Γ a w β F) {t : TypeId} {x : Operand} (ho : o.op = .load t x) (hk : opLoad real T Γ o.dst K t (Γ.eval x)) : Reads P o a w (Nx Bb w0 O0 av K) := by
 have hx := S.eval x
 have hrun : ∀ z, (Instr.loadAt t (a.eval x)).run P w = .ok z w → (execOp a.eval o).run P w = .ok (.value z) w := fun z hz => by unfold execOp; rw [ho]; exact run_v hz
 unfold opLoad at hk
 split at hk
 ·exact hk.elim
 rename_i u hu
 have ht := hT.ty _ _ hu
 split at hk
 ·rename_i dp e xs i p hxe
  rw [hxe] at hx
  split at hk
  ·rename_i s hs
   split at hk
   ·rename_i hsu; subst hsu
    obtain ⟨cs, ⟨h0, h1, b, off, arr, ty, fz, hzd, hb, hl, hr, ec⟩, ex⟩ := slot_one hx rfl (by simp)
    subst ec
    have ex' : a.eval x = .pointer (some ⟨b, off + i.toNat * e.sz + offAt e p, none⟩) := ex
    have hel := hr i.toNat _ (getD_some (d := e.zero) h0 h1)
    obtain ⟨hty, B', hB', hat⟩ := Own.at hel hs
    have hb0 : B' = [] := hat.b0
    subst hb0
    have hle := offAt_le hty
    rw [seg_seg hle] at hat
    have hin := fit_row h0 h1 hl hle
    refine go_value S (hrun _ (by rw [ex']; exact run_loadAt ht hb hin)) ?_ hk
    have key : SlotR (hp w) (ZdOf Bb F Γ.roots) β (.pv dp s.1 s.2) (valOf s.1.agg (seg arr.toList (off + i.toNat * e.sz + offAt e p) s.1.sz)) := by
     exact slot_c (v := .pv dp s.1 s.2) rfl hat
    split
    ·exact key
    ·rename_i hf
     obtain ⟨cs', h5, h6⟩ := slot_pv key
     rw [h6]
     exact slot_c (v := .pv [] s.1 s.2) rfl ((h5.flat (m := 0) (by simpa using hf)).2 _ _)
   ·exact hk.elim
  ·exact hk.elim
 ·rename_i r e i p hxe
  rw [hxe] at hx
  obtain ⟨cs, ⟨b, off, hb, ec⟩, ex⟩ := slot_one hx rfl (by simp)
  subst ec
  have ex' : a.eval x = .pointer (some ⟨b, off + i.toNat * e.sz + offAt e p, none⟩) := ex
  split at hk
  ·rename_i lvl f xs hr
   split at hk
   ·rename_i hfe; subst hfe
    obtain ⟨h0, h1, hk⟩ := hk
    have h0' : 0 ≤ i := h0
    have h1' : i < xs.length := h1
    split at hk
    ·rename_i s hs
     split at hk
     ·rename_i hsu; subst hsu
      obtain ⟨A, c, eb, l1, l2, q⟩ := S.roots r _ (look_mem hr)
      simp only [List.cons.injEq, and_true] at eb
      rcases q with ⟨_, _, q, _⟩ | ⟨b', off', arr, ty, Bs, rfl, hbb, hl, hB, hn, hq⟩
      ·exact absurd q (ne_nil_of_lt h0' h1')
      ·rw [eb] at hb
       simp only [baseA, Option.some.injEq, Prod.mk.injEq] at hb
       obtain ⟨rfl, rfl⟩ := hb
       have hix : i.toNat < Bs.length := by rw [hn]; omega
       have hel := hq i.toNat _ _ (getD_some (d := f.zero) h0' h1') (List.getElem?_eq_getElem hix)
       obtain ⟨hty, B', hB', hat⟩ := Own.at hel hs
       have hle := offAt_le hty
       rw [seg_seg hle] at hat
       have hl' : b'.succ = b'.succ := rfl
       have hin := fit_row (off := off') h0' h1' (Nat.le_trans (Nat.add_le_add_left (Nat.mul_le_mul_right _ l1) _) hl) hle
       refine go_value S (hrun _ (by rw [ex']; exact run_loadAt ht hbb hin)) ?_ hk
       split
       ·-- rows inside: read only, out of r
        have hown : ∀ q ∈ B', q ∈ F r := fun q hq' => by rw [hB]; exact List.mem_cons_of_mem _ (List.mem_flatten.2 ⟨_, List.getElem_mem hix, hB' q hq'⟩)
        split
        ·exact slot_c (v := .pv [] s.1 s.2) rfl (by have := hat.b0; subst this; exact hat)
        ·refine slot_c (v := .pv [r] s.1 s.2) rfl (hat.freeze (fun q hz => ?_) (fun q hq' => ?_))
         ·exact hz.imp id (fun ⟨_, hm, _⟩ => by cases hm)
         ·exact .inr ⟨r, by simp, List.mem_map.2 ⟨_, look_mem hr, rfl⟩, hown q hq'⟩
       ·rename_i hf
        exact slot_c (v := .pv [] s.1 s.2) rfl ((hat.flat (m := 0) (by simpa using hf)).2 _ _)
     ·exact hk.elim
    ·exact hk.elim
   ·exact hk.elim
  ·rename_i v hr
   split at hk
   ·rename_i hc
    obtain ⟨hf, rfl, hty⟩ := hc
    split at hk
    ·rename_i s hs
     split at hk
     ·rename_i hag
      obtain ⟨b', cs, ty, h1, h2, h3, h4⟩ := S.roots r _ (look_mem hr)
      rw [h1] at hb
      simp only [baseA, Option.some.injEq, Prod.mk.injEq] at hb
      obtain ⟨rfl, rfl⟩ := hb
      obtain ⟨τ, q1, q2⟩ := SVc.at h4 hf hs (.inr ⟨_, hty⟩)
      rw [hty, Option.some.injEq] at q1; subst q1
      have hle := offAt_le hty
      rw [← fits_sz hf, ← h4.len] at hle
      refine go_value S (hrun _ (by rw [ex']; exact run_loadAt ht h3 (by simpa using hle))) ?_ hk
      have e0 : (0 : Nat) + (0 : Int).toNat * e.sz + offAt e p = offAt e p := by simp
      rw [e0]
      have hst : s.tup = false := by
       cases s <;> first | rfl | exact q2.elim
      rw [← hag]
      exact slot_c hst q2
     ·exact hk.elim
    ·exact hk.elim
   ·exact hk.elim
  ·exact hk.elim
 ·exact hk.elim
end
end Go.Proofs.YtmjeghlfmhbjdaaDoor.Eng

/- The engine, ninth part: stores. No condition. -/
namespace Go.Proofs.YtmjeghlfmhbjdaaDoor.Eng
open Go.RowKit
set_option linter.unusedVariables false
set_option linter.unusedSimpArgs false
section
variable {P : Program} {T : Tab} {Bb : Nat → Prop} {w0 : World} {O0 : List Nat} {av : List Value} {Γ Γ' : Ctx} {a : Act} {w w' : World} {β : Nat → Value} {F : Nat → List Nat} {K : Ctx → Prop} {o : Oper} {Q : Exit → Act → World → Prop}
theorem zd_mono {R : List (Nat × Ch)} {d d' : List Nat} (h : ∀ r ∈ d, r ∈ d') {b : Nat} (z : ZdOf Bb F R d b) : ZdOf Bb F R d' b :=
 z.imp id fun ⟨r, h1, h2⟩ => ⟨r, h r h1, h2⟩
theorem cells_valOf {cs : List Value} {g : Bool} (h : g = false → ∃ x, cs = [x] ∧ one x = true) : (valOf g cs).cells.toList = cs := by
 cases g with
 | true => simp [valOf, Value.cells]
 | false => obtain ⟨x, rfl, h1⟩ := h rfl; cases x <;> simp [valOf, Value.cells, one] at h1 ⊢
/-- The data of a state. -/
theorem den0_ok {R : List (Nat × Ch)} {h : Hp} (hR : ∀ r c, (r, c) ∈ R → RootR h (ZdOf Bb F R) β (F r) r c) : ∀ {t : Ty} {v : SV} {y : t.den × List Nat} {cs : List Value}, den0 R t v = some y → SVc h (ZdOf Bb F R) β v cs →
  Own h (ZdOf Bb F R y.2) t 0 [] cs y.1 ∧ v.isAgg = t.agg := by
 have pv : ∀ {t u : Ty} {d : List Nat} {x : u.den} {y : t.den × List Nat} {cs : List Value}, (as t ⟨u, x⟩).map (fun y => (y, d)) = some y → SVc h (ZdOf Bb F R) β (.pv d u x) cs → Own h (ZdOf Bb F R y.2) t 0 [] cs y.1 ∧ (SV.pv d u x).isAgg = t.agg := by
  intro t u d x y cs e o
  simp only [Option.map_eq_some_iff] at e
  obtain ⟨z, e, rfl⟩ := e
  have e' := as_some e
  simp only [Sigma.mk.injEq] at e'
  obtain ⟨rfl, e'⟩ := e'
  have e'' := eq_of_heq e'; subst e''
  exact ⟨o, rfl⟩
 intro t
 induction t with
 | unit =>
  intro v y cs e o
  cases v <;> simp only [den0, reduceCtorEq, Option.some.injEq] at e
  ·exact pv e o
  ·subst e; exact ⟨⟨rfl, o⟩, rfl⟩
 | int k => intro v y cs e o; cases v <;> simp only [den0, reduceCtorEq] at e; exact pv e o
 | bool => intro v y cs e o; cases v <;> simp only [den0, reduceCtorEq] at e; exact pv e o
 | str => intro v y cs e o; cases v <;> simp only [den0, reduceCtorEq] at e; exact pv e o
 | pair a b iha ihb =>
  intro v y cs e o
  cases v <;> simp only [den0, reduceCtorEq] at e
  ·exact pv e o
  ·rename_i v1 v2
   split at e
   ·rename_i p q hp hq
    simp only [Option.some.injEq] at e; subst e
    obtain ⟨c1, c2, rfl, o1, o2⟩ := o
    obtain ⟨q1, _⟩ := iha hp o1
    obtain ⟨q2, _⟩ := ihb hq o2
    exact ⟨⟨[], [], c1, c2, rfl, rfl, q1.weaken (fun b hz => zd_mono (fun r hr => by simp [hr]) hz), q2.weaken (fun b hz => zd_mono (fun r hr => by simp [hr]) hz)⟩, rfl⟩
   ·cases e
 | sl e' ih =>
  intro v y cs e o
  cases v <;> simp only [den0, reduceCtorEq, Option.some.injEq] at e
  ·exact pv e o
  ·subst e
   have o' : cs = [.slice none 0 0] := o
   subst o'
   exact ⟨Own.nil e' 0, rfl⟩
  ·rename_i r
   split at e
   ·rename_i lvl f xs hr
    simp only [Option.map_eq_some_iff] at e
    obtain ⟨z, e, rfl⟩ := e
    have e2 := as_some e
    simp only [Sigma.mk.injEq, Ty.sl.injEq] at e2
    obtain ⟨rfl, e3⟩ := e2
    have e4 := eq_of_heq e3; subst e4
    have o' : cs = [β r] := o
    subst o'
    have hrow : Own h (ZdOf Bb F R []) (.sl f) (lvl + 1) (F r) [β r] xs := hR r _ (look_mem hr)
    refine ⟨Own.freeze (Z := ZdOf Bb F R []) (Z' := ZdOf Bb F R [r]) (fun b hz => zd_mono (by simp) hz) (fun b hb => .inr ⟨r, by simp, List.mem_map.2 ⟨_, look_mem hr, rfl⟩, hb⟩) hrow, rfl⟩
   ·cases e
 | any =>
  intro v y cs e o
  cases v <;> simp only [den0, reduceCtorEq, Option.some.injEq] at e
  ·exact pv e o
  ·subst e; exact ⟨⟨rfl, o, rfl⟩, rfl⟩
 | arr n e' ih => intro v y cs e o; cases v <;> simp only [den0, reduceCtorEq] at e; exact pv e o
 | inil =>
  intro v y cs e o
  cases v <;> simp only [den0, reduceCtorEq, Option.some.injEq] at e
  ·exact pv e o
  ·subst e; exact ⟨⟨rfl, o⟩, rfl⟩
 | mp k v' ihk ihv =>
  intro v y cs e o
  cases v <;> simp only [den0, reduceCtorEq, Option.some.injEq] at e
  ·exact pv e o
  ·rename_i r
   split at e
   ·rename_i k' v'' xs hr
    simp only [Option.map_eq_some_iff] at e
    obtain ⟨z, e, rfl⟩ := e
    have e2 := as_some e
    simp only [Sigma.mk.injEq, Ty.mp.injEq] at e2
    obtain ⟨⟨rfl, rfl⟩, e3⟩ := e2
    have e4 := eq_of_heq e3; subst e4
    have o' : cs = [β r] := o
    subst o'
    have hrow : Own h (ZdOf Bb F R []) (.mp k' v'') 1 (F r) [β r] (some xs) := hR r _ (look_mem hr)
    refine ⟨Own.freeze (Z := ZdOf Bb F R []) (Z' := ZdOf Bb F R [r]) (fun b hz => zd_mono (by simp) hz) (fun b hb => .inr ⟨r, by simp, List.mem_map.2 ⟨_, look_mem hr, rfl⟩, hb⟩) hrow, rfl⟩
   ·cases e
  ·subst e; exact ⟨⟨rfl, o⟩, rfl⟩
 | ptr e' ih =>
  intro v y cs e o
  cases v with
  | pv d u x => simp only [den0] at e; exact pv e o
  | nilP => simp only [den0, Option.some.injEq] at e; subst e; exact ⟨⟨rfl, o⟩, rfl⟩
  | ad r f i p =>
   cases p with
   | cons _ _ => simp [den0] at e
   | nil =>
    simp only [den0] at e
    split at e
    ·rename_i v' hr
     split at e
     ·rename_i hc
      obtain ⟨rfl, rfl⟩ := hc
      simp only [Option.map_eq_some_iff] at e
      obtain ⟨z, e, rfl⟩ := e
      obtain ⟨b, cs', ty, q1, q2, q3, q4⟩ := hR r _ (look_mem hr)
      obtain ⟨b2, o2, q5, rfl⟩ := o
      rw [q1] at q5
      simp only [baseA, Option.some.injEq, Prod.mk.injEq] at q5
      obtain ⟨rfl, rfl⟩ := q5
      obtain ⟨q6, _⟩ := ih e q4
      have hl := q6.len
      refine ⟨⟨rfl, b, 0, cs'.toArray, ty, (0, 0), by simp [offAt_nil], .inr ⟨r, by simp, List.mem_map.2 ⟨_, look_mem hr, rfl⟩, by rw [q2]; simp⟩, q3, by simp [hl], ?_⟩, rfl⟩
      have : seg cs'.toArray.toList 0 f.sz = cs' := by unfold seg; simp [← hl]
      rw [this]
      exact q6.weaken (fun b hz => zd_mono (fun r hr => by simp [hr]) hz)
     ·cases e
    ·cases e
  | _ => simp [den0] at e
 | ialt u a r iha ihr =>
  intro v y cs e o
  cases v <;> simp only [den0, reduceCtorEq, Option.some.injEq] at e
  ·exact pv e o
  ·subst e; exact ⟨.inl ⟨rfl, o, rfl⟩, rfl⟩
  ·rename_i u' b' v'
   obtain ⟨cs', rfl, o'⟩ := o
   split at e
   ·rename_i hc
    obtain ⟨rfl, rfl, _⟩ := hc
    simp only [Option.map_eq_some_iff] at e
    obtain ⟨z, e, rfl⟩ := e
    exact ⟨⟨cs', rfl, (iha e o').1⟩, rfl⟩
   ·split at e
    ·simp only [Option.map_eq_some_iff] at e
     obtain ⟨z, e, rfl⟩ := e
     exact ⟨.inr ⟨rfl, (ihr (v := .ifs u' b' v') e ⟨cs', rfl, o'⟩).1⟩, rfl⟩
    ·cases e
theorem den0_slot {R : List (Nat × Ch)} {h : Hp} (hR : ∀ r c, (r, c) ∈ R → RootR h (ZdOf Bb F R) β (F r) r c) {t : Ty} {v : SV} {y : t.den × List Nat} {x : Value} (e : den0 R t v = some y) (s : SlotR h (ZdOf Bb F R) β v x) :
  ∃ cs, Own h (ZdOf Bb F R y.2) t 0 [] cs y.1 ∧ x = valOf t.agg cs := by
 have ht : v.tup = false := by cases v <;> cases t <;> first | rfl | (simp [den0] at e)
 have hh : ∀ n, v ≠ .hole n := by rintro n rfl; cases t <;> simp [den0] at e
 obtain ⟨cs, h1, h2⟩ := slot_one s ht hh
 obtain ⟨h3, h4⟩ := den0_ok hR e h1
 exact ⟨cs, h3, by rw [h2, h4]⟩
theorem own_agg {h : Hp} {Z : Nat → Prop} {t : Ty} {n : Nat} {B : List Nat} {cs : List Value} {x : t.den} (o : Own h Z t n B cs x) : t.agg = false → ∃ v, cs = [v] ∧ one v = true := by
 intro ha
 have hl := o.len
 have h1 := o.one
 have hs : t.sz = 1 := by cases t <;> first | rfl | cases ha
 rw [hs] at hl
 match cs, hl, h1 with
 | [v], _, h1 => exact ⟨v, rfl, h1 v (by simp)⟩
theorem run_storeAt {τ : Ty} {t : TypeId} (ht : TyOk P τ t) {b o : Nat} {arr : Array Value} {ty : TypeId} {cs : List Value} {v : Value} (hb : w.heap[b]? = some (.cells arr ty (0, 0))) (hv : v.cells.toList = cs) (hl : cs.length = τ.sz) (h1 : ∀ x ∈ cs, one x = true) (h : o + τ.sz ≤ arr.size) :
  (do Instr.storeAt t (.pointer (some ⟨b, o, none⟩)) v; pure Next.skip : Sem Next).run P w = .ok .skip (upd w b (.cells (splice arr.toList o cs).toArray ty (0, 0))) := by
 have e : (Instr.storeAt t (.pointer (some ⟨b, o, none⟩)) v).run P w = .ok () (upd w b (.cells (splice arr.toList o cs).toArray ty (0, 0))) := by
  unfold Instr.storeAt
  show (Sem.bind _ _).run P w = _
  rw [run_bind_ok (s := Instr.sureAddr _) (x := (⟨b, o, none⟩ : Addr)) rfl]
  unfold storeVar
  show (Sem.bind _ _).run P w = _
  rw [run_bind_ok (run_size ht.info)]
  have hs : v.cells.size = τ.sz := by rw [← Array.length_toList, hv, hl]
  simp only [hs, ne_eq, not_true_eq_false, if_false]
  rw [hv]
  exact run_storeCells cs o 0 arr w hb h1 (by omega)
 show (Sem.bind _ _).run P w = _
 rw [run_bind_ok e]; rfl
/-- One root's content is changed, in its own blocks. -/
theorem Sim.setRoot {r : Nat} {c0 c : Ch} {F' : Nat → List Nat} {β' : Nat → Value} {R : Nat → Prop} (S : Sim Bb w0 O0 av Γ a w β F) (fit : FitG (fun d => mem r d = false) R Γ) (hR : ∀ q, R q → β' q = β q) (hβ : ∀ q, q ≠ r → β' q = β q) (hone : ∀ q, one (β' q) = true) (hr : (r, c0) ∈ Γ.roots)
  (hw : ∀ q, q < w.heap.size → q ∉ F r → hp w' q = hp w q) (hsz : w.heap.size ≤ w'.heap.size) (hos : w'.os = w.os) (htp : w'.tape = w.tape) (hou : w'.output = w.output)
  (hF : ∀ q, q ≠ r → F' q = F q) (hF' : (F' r).Nodup ∧ ∀ b ∈ F' r, b < w'.heap.size ∧ (b ∈ F r ∨ w.heap.size ≤ b))
  (hc : RootR (hp w') (ZdOf Bb F' Γ.roots) β' (F' r) r c) : Sim Bb w0 O0 av (Γ.set r c) a w' β' F' := by
 have hin : r ∈ Γ.roots.map (·.1) := List.mem_map.2 ⟨_, hr, rfl⟩
 have hids : (putL r c Γ.roots).map (·.1) = Γ.roots.map (·.1) := putL_ids hin
 have hlt : ∀ {q b}, q ∈ Γ.roots.map (·.1) → b ∈ F q → b < w.heap.size := fun hq hb => (S.own _ (mem_allO.2 ⟨_, hq, hb⟩)).1
 have hnew : ∀ b ∈ F' r, ∀ q ∈ Γ.roots.map (·.1), q ≠ r → b ∉ F q := by
  intro b hb q hq hne hbq
  rcases (hF'.2 b hb).2 with h1 | h1
  ·exact hne (disj S.ids S.nodup hq hin hbq h1)
  ·have := hlt hq hbq; omega
 have hz : ∀ d, mem r d = false → ∀ b, ZdOf Bb F Γ.roots d b → (hp w b).isSome → hp w' b = hp w b ∧ ZdOf Bb F' Γ.roots d b := by
  intro d hd b hzb hs
  have hblt : b < w.heap.size := by
   rcases Nat.lt_or_ge b w.heap.size with h | h
   ·exact h
   ·simp [hp, Array.getElem?_eq_none h] at hs
  have hnr : b ∉ F r := by
   intro hbr
   rcases hzb with h | ⟨q, hq, hqm, hbq⟩
   ·exact h.1 (mem_allO.2 ⟨r, hin, hbr⟩)
   ·have := disj S.ids S.nodup hqm hin hbq hbr
    subst this; exact mem_false hd hq
  have hnr' : b ∉ F' r := by
   intro hbr
   rcases (hF'.2 b hbr).2 with h1 | h1
   ·exact hnr h1
   ·omega
  refine ⟨hw b hblt hnr, ?_⟩
  rcases hzb with h | ⟨q, hq, hqm, hbq⟩
  ·refine .inl ⟨fun hm => ?_, h.2⟩
   obtain ⟨q, hqm, hbq⟩ := mem_allO.1 hm
   by_cases hqr : q = r
   ·subst hqr; exact hnr' hbq
   ·rw [hF q hqr] at hbq; exact h.1 (mem_allO.2 ⟨q, hqm, hbq⟩)
  ·have hqr : q ≠ r := by rintro rfl; exact mem_false hd hq
   exact .inr ⟨q, hq, hqm, by rw [hF q hqr]; exact hbq⟩
 have hzR : ZdOf Bb F' (putL r c Γ.roots) = ZdOf Bb F' Γ.roots := ZdOf_ids hids
 have hO : allO F' (putL r c Γ.roots) = allO F' Γ.roots := allO_ids hids
 refine S.world (R' := putL r c Γ.roots) (F' := F') fit (fun d hd b h1 h2 => by rw [hzR]; exact hz d hd b h1 h2) hR ?_ (by rw [hids]; exact S.ids) ?_ ?_ ?_ hone
 ·intro q d hm
  rw [hzR]
  rcases mem_putL S.ids hm with ⟨rfl, rfl⟩ | ⟨h1, h2⟩
  ·exact hc
  ·have hqm : q ∈ Γ.roots.map (·.1) := List.mem_map.2 ⟨_, h1, rfl⟩
   rw [hF q h2]
   refine RootR.mono (D := fun d => mem r d = false) (R := R) (h := hp w) rfl hz hR (hβ q h2) (fun b hb => hw b (hlt hqm hb) fun hbr => h2 (disj S.ids S.nodup hqm hin hb hbr)) (fun v e => ?_) (S.roots q d h1)
   subst e; exact fit.boxes q v h1
 ·rw [hO]
  have key : ∀ l : List (Nat × Ch), (l.map (·.1)).Nodup → (allO F l).Nodup → (∀ q ∈ l.map (·.1), q ≠ r → ∀ b ∈ F' r, b ∉ F q) → (allO F' l).Nodup := by
   intro l
   induction l with
   | nil => intro _ _ _; simp [allO]
   | cons p l ih =>
    intro h1 h2 h3
    simp only [List.map_cons, List.nodup_cons] at h1
    have e : ∀ G : Nat → List Nat, allO G (p :: l) = G p.1 ++ allO G l := fun G => by simp [allO]
    rw [e] at h2 ⊢
    rw [List.nodup_append] at h2 ⊢
    have hrest := ih h1.2 h2.2.1 (fun q hq => h3 q (by simp [hq]))
    by_cases hpr : p.1 = r
    ·refine ⟨by rw [hpr]; exact hF'.1, hrest, fun x hx y hy hxy => ?_⟩
     subst hxy
     obtain ⟨q, hq, hy⟩ := mem_allO.1 hy
     have hqr : q ≠ r := by rintro rfl; exact h1.1 (hpr ▸ hq)
     rw [hF q hqr] at hy
     exact h3 q (by simp [hq]) hqr x (hpr ▸ hx) hy
    ·refine ⟨by rw [hF _ hpr]; exact h2.1, hrest, fun x hx y hy hxy => ?_⟩
     subst hxy
     rw [hF _ hpr] at hx
     obtain ⟨q, hq, hy⟩ := mem_allO.1 hy
     by_cases hqr : q = r
     ·subst hqr; exact h3 p.1 (by simp) hpr x hy hx
     ·rw [hF q hqr] at hy; exact h2.2.2 x hx x (mem_allO.2 ⟨q, hq, hy⟩) rfl
  exact key _ S.ids S.nodup (fun q hq hne b hb => hnew b hb q hq hne)
 ·rw [hO]
  intro b hb
  obtain ⟨q, hqm, hbq⟩ := mem_allO.1 hb
  by_cases hqr : q = r
  ·subst hqr
   refine ⟨(hF'.2 b hbq).1, ?_⟩
   rcases (hF'.2 b hbq).2 with h1 | h1
   ·exact (S.own b (mem_allO.2 ⟨_, hin, h1⟩)).2
   ·exact .inr (Nat.le_trans S.frm.size h1)
  ·rw [hF q hqr] at hbq
   have := S.own b (mem_allO.2 ⟨_, hqm, hbq⟩)
   exact ⟨Nat.lt_of_lt_of_le this.1 hsz, this.2⟩
 ·refine ⟨hos.trans S.frm.os, htp.trans S.frm.tape, hou.trans S.frm.output, Nat.le_trans S.frm.size hsz, fun k hk hkO => ?_⟩
  have h1 : k < w.heap.size := Nat.lt_of_lt_of_le hk S.frm.size
  have hnr : k ∉ F r := fun hkr => by
   rcases (S.own k (mem_allO.2 ⟨_, hin, hkr⟩)).2 with h2 | h2
   ·exact hkO h2
   ·omega
  exact (hw k h1 hnr).trans (S.frm.block k hk hkO)
theorem mem_mapC_row {f : SV → SV} {r lvl : Nat} {e : Ty} {xs : List e.den} : ∀ {l : List (Nat × Ch)}, (r, Ch.row lvl e xs) ∈ l → (r, Ch.row lvl e xs) ∈ mapC f l
 | [], h => by cases h
 | (m, .box u) :: l, h => by
   rcases List.mem_cons.1 h with h' | h'
   ·cases h'
   ·simp [mapC, mem_mapC_row h']
 | (m, .row a b d) :: l, h => by
   rcases List.mem_cons.1 h with h' | h'
   ·simp [mapC, h']
   ·simp [mapC, mem_mapC_row h']
 | (m, .iter a b) :: l, h => by
   rcases List.mem_cons.1 h with h' | h'
   ·cases h'
   ·simp [mapC, mem_mapC_row h']
 | (m, .mp a b d) :: l, h => by
   rcases List.mem_cons.1 h with h' | h'
   ·cases h'
   ·simp [mapC, mem_mapC_row h']
 | (m, .glob a) :: l, h => by
   rcases List.mem_cons.1 h with h' | h'
   ·cases h'
   ·simp [mapC, mem_mapC_row h']
theorem mem_mapC_box {f : SV → SV} {r : Nat} {v : SV} : ∀ {l : List (Nat × Ch)}, (r, Ch.box v) ∈ l → (r, Ch.box (f v)) ∈ mapC f l
 | [], h => by cases h
 | (m, .box u) :: l, h => by
   rcases List.mem_cons.1 h with h' | h'
   ·injection h' with h1 h2; injection h2 with h2; simp [mapC, h1, h2]
   ·simp [mapC, mem_mapC_box h']
 | (m, .row a b d) :: l, h => by
   rcases List.mem_cons.1 h with h' | h'
   ·cases h'
   ·simp [mapC, mem_mapC_box h']
 | (m, .iter a b) :: l, h => by
   rcases List.mem_cons.1 h with h' | h'
   ·cases h'
   ·simp [mapC, mem_mapC_box h']
 | (m, .mp a b d) :: l, h => by
   rcases List.mem_cons.1 h with h' | h'
   ·cases h'
   ·simp [mapC, mem_mapC_box h']
 | (m, .glob a) :: l, h => by
   rcases List.mem_cons.1 h with h' | h'
   ·cases h'
   ·simp [mapC, mem_mapC_box h']
theorem mem_mapC_iter {f : SV → SV} {r : Nat} {s : ByteArray} {p : Int} : ∀ {l : List (Nat × Ch)}, (r, Ch.iter s p) ∈ l → (r, Ch.iter s p) ∈ mapC f l
 | [], h => by cases h
 | (m, .box u) :: l, h => by
   rcases List.mem_cons.1 h with h' | h'
   ·cases h'
   ·simp [mapC, mem_mapC_iter h']
 | (m, .row a b d) :: l, h => by
   rcases List.mem_cons.1 h with h' | h'
   ·cases h'
   ·simp [mapC, mem_mapC_iter h']
 | (m, .iter a b) :: l, h => by
   rcases List.mem_cons.1 h with h' | h'
   ·simp [mapC, h']
   ·simp [mapC, mem_mapC_iter h']
 | (m, .mp a b d) :: l, h => by
   rcases List.mem_cons.1 h with h' | h'
   ·cases h'
   ·simp [mapC, mem_mapC_iter h']
 | (m, .glob a) :: l, h => by
   rcases List.mem_cons.1 h with h' | h'
   ·cases h'
   ·simp [mapC, mem_mapC_iter h']
theorem mem_mapC_mp {f : SV → SV} {r : Nat} {k v : Ty} {xs : List (k.den × v.den)} : ∀ {l : List (Nat × Ch)}, (r, Ch.mp k v xs) ∈ l → (r, Ch.mp k v xs) ∈ mapC f l
 | [], h => by cases h
 | (m, .box u) :: l, h => by
   rcases List.mem_cons.1 h with h' | h'
   ·cases h'
   ·simp [mapC, mem_mapC_mp h']
 | (m, .row a b d) :: l, h => by
   rcases List.mem_cons.1 h with h' | h'
   ·cases h'
   ·simp [mapC, mem_mapC_mp h']
 | (m, .iter a b) :: l, h => by
   rcases List.mem_cons.1 h with h' | h'
   ·cases h'
   ·simp [mapC, mem_mapC_mp h']
 | (m, .mp a b d) :: l, h => by
   rcases List.mem_cons.1 h with h' | h'
   ·simp [mapC, h']
   ·simp [mapC, mem_mapC_mp h']
 | (m, .glob a) :: l, h => by
   rcases List.mem_cons.1 h with h' | h'
   ·cases h'
   ·simp [mapC, mem_mapC_mp h']
theorem nodup_F {r : Nat} : ∀ {l : List (Nat × Ch)}, r ∈ l.map (·.1) → (allO F l).Nodup → (F r).Nodup
 | [], h, _ => by cases h
 | p :: l, h, h2 => by
   have e : allO F (p :: l) = F p.1 ++ allO F l := by simp [allO]
   rw [e, List.nodup_append] at h2
   simp only [List.map_cons, List.mem_cons] at h
   rcases h with h | h
   ·rw [h]; exact h2.1
   ·exact nodup_F h h2.2.1
theorem fit_svSet {D : List Nat → Prop} {R : Nat → Prop} : ∀ {v : SV} {p : List Nat} {u v' : SV}, Fit D R v → Fit D R u → svSet v p u = some v' → Fit D R v'
 | v, [], u, v', f, g, e => by
   have e' : (if u.sz = v.sz ∧ u.isAgg = v.isAgg then some u else none) = some v' := by cases v <;> exact e
   split at e'
   ·simp only [Option.some.injEq] at e'; subst e'; exact g
   ·cases e'
 | .consA a b, 0 :: p, u, v', f, g, e => by
   simp only [svSet, Option.map_eq_some_iff] at e
   obtain ⟨z, e, rfl⟩ := e
   exact ⟨fit_svSet f.1 g e, f.2⟩
 | .consA a b, (n + 1) :: p, u, v', f, g, e => by
   simp only [svSet, Option.map_eq_some_iff] at e
   obtain ⟨z, e, rfl⟩ := e
   exact ⟨f.1, fit_svSet f.2 g e⟩
 | .pv _ _ _, k :: p, u, v', f, g, e => by cases k <;> simp [svSet] at e
 | .hole _, k :: p, u, v', f, g, e => by cases k <;> simp [svSet] at e
 | .nils, k :: p, u, v', f, g, e => by cases k <;> simp [svSet] at e
 | .ref _, k :: p, u, v', f, g, e => by cases k <;> simp [svSet] at e
 | .ad _ _ _ _, k :: p, u, v', f, g, e => by cases k <;> simp [svSet] at e
 | .fad _ _ _ _ _, k :: p, u, v', f, g, e => by cases k <;> simp [svSet] at e
 | .nilA, k :: p, u, v', f, g, e => by cases k <;> simp [svSet] at e
 | .nilT, k :: p, u, v', f, g, e => by cases k <;> simp [svSet] at e
 | .consT _ _, k :: p, u, v', f, g, e => by cases k <;> simp [svSet] at e
theorem sound_store (hT : TabOk P T) (S : Sim Bb w0 O0 av Γ a w β F) {t : TypeId} {x v : Operand} (ho : o.op = .store t x v) (hd : o.dst = none) (hk : opStore real T Γ K t (Γ.eval x) (Γ.eval v)) : o.wp P a w (Nx Bb w0 O0 av K) Q := by
 have hx := S.eval x
 have hv := S.eval v
 have hrun : ∀ w', (do Instr.storeAt t (a.eval x) (a.eval v); pure Next.skip : Sem Next).run P w = .ok .skip w' → (execOp a.eval o).run P w = .ok .skip w' := fun w' hz => by unfold execOp; rw [ho]; exact hz
 have hput : a.put o.dst undef = a := by rw [hd]; rfl
 unfold opStore at hk
 split at hk
 ·exact hk.elim
 rename_i u hu
 have ht := hT.ty _ _ hu
 split at hk
 ·rename_i r e i p hxe
  rw [hxe] at hx
  obtain ⟨cs, ⟨b, off, hb, ec⟩, ex⟩ := slot_one hx rfl (by simp)
  subst ec
  have ex' : a.eval x = .pointer (some ⟨b, off + i.toNat * e.sz + offAt e p, none⟩) := ex
  split at hk
  ·rename_i lvl f xs hr
   split at hk
   ·rename_i hc
    obtain ⟨rfl, hty, hfl⟩ := hc
    obtain ⟨h0, h1, hk⟩ := hk
    have h0' : 0 ≤ i := h0
    have h1' : i < xs.length := h1
    split at hk
    ·rename_i y hy
     split at hk
     ·rename_i hdep
      split at hk
      ·rename_i z hz
       obtain ⟨cs, hcs, ev⟩ := den0_slot S.roots hy hv
       rw [hdep] at hcs
       obtain ⟨A, c, eb, l1, l2, q⟩ := S.roots r _ (look_mem hr)
       simp only [List.cons.injEq, and_true] at eb
       rcases q with ⟨_, _, q, _⟩ | ⟨b', off', arr, ty, Bs, rfl, hbb, hl, hB, hn, hq⟩
       ·exact absurd q (ne_nil_of_lt h0' h1')
       rw [eb] at hb
       simp only [baseA, Option.some.injEq, Prod.mk.injEq] at hb
       obtain ⟨rfl, rfl⟩ := hb
       have hle := offAt_le hty
       have hl1 := Nat.le_trans (Nat.add_le_add_left (Nat.mul_le_mul_right _ l1) _) hl
       have hin := fit_row (off := off') h0' h1' hl1 hle
       have hcl := hcs.len
       refine wp_skip' (hrun _ (by rw [ex', ev]; exact run_storeAt ht hbb (cells_valOf (own_agg hcs)) hcl hcs.one hin)) ?_
       rw [hput]
       refine ⟨_, β, F, hk, ?_⟩
       have S1 := S.soft (soft_killD r)
       have hin1 : r ∈ Γ.roots.map (·.1) := List.mem_map.2 ⟨_, look_mem hr, rfl⟩
       have hFn := nodup_F hin1 S.nodup
       refine S1.setRoot (FitG.of (fit_killD r) Γ) (fun _ _ => rfl) (fun _ _ => rfl) S.bone (mem_mapC_row (look_mem hr)) (F' := F) (fun q _ hq => ?_) (by rw [upd_size]; exact Nat.le_refl _) rfl rfl rfl (fun _ _ => rfl) ⟨?_, fun q hq => ?_⟩ ?_
       ·exact upd_ne (by rintro rfl; exact hq (by rw [hB]; simp))
       ·exact hFn
       ·rw [upd_size]; exact ⟨(S.own q (mem_allO.2 ⟨r, List.mem_map.2 ⟨_, look_mem hr, rfl⟩, hq⟩)).1, .inl hq⟩
       ·-- the root's new content
        have hzz : ZdOf Bb F (Γ.map (killD r)).roots = ZdOf Bb F Γ.roots := ZdOf_ids (mapC_ids _ _)
        rw [hzz]
        have hnd := S.nodup
        have hbr : b' ∈ F r := by rw [hB]; simp
        have hnz : ∀ q, ZdOf Bb F Γ.roots [] q → q ≠ b' := by
         rintro q hq rfl
         rcases hq with hq | ⟨_, hq, _⟩
         ·exact hq.1 (mem_allO.2 ⟨r, List.mem_map.2 ⟨_, look_mem hr, rfl⟩, hbr⟩)
         ·cases hq
        have hmono : ∀ {tt : Ty} {n : Nat} {B : List Nat} {cc : List Value} {xx : tt.den}, (∀ q ∈ B, q ≠ b') → Own (hp w) (ZdOf Bb F Γ.roots []) tt n B cc xx → Own (hp (upd w b' (.cells (splice arr.toList (off' + i.toNat * f.sz + offAt f p) cs).toArray ty (0, 0)))) (ZdOf Bb F Γ.roots []) tt n B cc xx :=
         fun hB' h => h.mono (fun q hq _ => ⟨upd_ne (hnz q hq), hq⟩) (fun q hq => upd_ne (hB' q hq))
        rw [hB, List.nodup_cons] at hFn
        have hxl : (real.set xs i z).length = xs.length := by show (xs.set i.toNat z).length = _; simp
        refine ⟨some ⟨b', off', none⟩, c, by rw [eb, hxl], by rw [hxl]; exact l1, by rw [hxl]; exact l2, .inr ⟨b', off', _, ty, Bs, rfl, upd_get hbb, ?_, hB, by rw [hn, hxl], ?_⟩⟩
        ·simp only [List.size_toArray]; rw [splice_len (by rw [hcl]; simpa using hin)]; simpa using hl
        ·intro j xj Bj hj hBj
         have hj' : (xs.set i.toNat z)[j]? = some xj := hj
         have hjl : j < xs.length := by have := (List.getElem?_eq_some_iff.1 hj').1; simpa using this
         have hBne : ∀ q ∈ Bj, q ≠ b' := fun q hq => by rintro rfl; exact hFn.1 (List.mem_flatten.2 ⟨Bj, List.mem_of_getElem? hBj, hq⟩)
         have hsl : off' + i.toNat * f.sz + offAt f p + cs.length ≤ arr.toList.length := by rw [hcl]; simpa using hin
         have hjs : off' + j * f.sz + f.sz ≤ arr.toList.length := by
          have : (j + 1) * f.sz ≤ xs.length * f.sz := Nat.mul_le_mul_right _ hjl
          rw [Nat.add_mul] at this
          have h9 : arr.toList.length = arr.size := by simp
          omega
         by_cases hji : j = i.toNat
         ·subst hji
          have hxj : xj = z := by simpa [hjl] using hj'.symm
          subst hxj
          have hel := hq i.toNat _ _ (getD_some (d := f.zero) h0' h1') hBj
          have := Own.put (vs := cs) hel hz (hfl) (by
           rcases hfl with hfl | hfl
           ·exact (hcs.flat (m := lvl) hfl).2 _ _
           ·rw [hfl]; exact hcs) hty
          have hin2 := seg_splice_in (l := arr.toList) (o := off' + i.toNat * f.sz) (d := offAt f p) (n := f.sz) (vs := cs) (by rw [hcl]; exact hle) hjs
          have hgoal : seg ((splice arr.toList (off' + i.toNat * f.sz + offAt f p) cs).toArray).toList (off' + i.toNat * f.sz) f.sz = splice (seg arr.toList (off' + i.toNat * f.sz) f.sz) (offAt f p) cs := by simpa using hin2
          rw [hgoal]
          exact hmono hBne this
         ·have hxj : xs[j]? = some xj := by rw [List.getElem?_set_ne (Ne.symm hji)] at hj'; exact hj'
          have hel := hq j xj Bj hxj hBj
          have hout := seg_splice_out (l := arr.toList) (o := off' + j * f.sz) (k := off' + i.toNat * f.sz + offAt f p) (n := f.sz) (vs := cs) (by
           rw [hcl]
           rcases Nat.lt_or_ge j i.toNat with hlt | hge
           ·left
            have : (j + 1) * f.sz ≤ i.toNat * f.sz := Nat.mul_le_mul_right _ hlt
            rw [Nat.add_mul] at this; omega
           ·right
            have : (i.toNat + 1) * f.sz ≤ j * f.sz := Nat.mul_le_mul_right _ (by omega)
            rw [Nat.add_mul] at this; omega) hsl
          have hgoal : seg ((splice arr.toList (off' + i.toNat * f.sz + offAt f p) cs).toArray).toList (off' + j * f.sz) f.sz = seg arr.toList (off' + j * f.sz) f.sz := by simpa using hout
          rw [hgoal]
          exact hmono hBne hel
      ·exact hk.elim
     ·exact hk.elim
    ·exact hk.elim
   ·exact hk.elim
  ·rename_i bv hr
   split at hk
   ·rename_i hc
    obtain ⟨hf, rfl, hty, hnh, hag, htp⟩ := hc
    split at hk
    ·rename_i bv' hbv
     obtain ⟨b', cs0, ty, q1, q2, q3, q4⟩ := S.roots r _ (look_mem hr)
     rw [q1] at hb
     simp only [baseA, Option.some.injEq, Prod.mk.injEq] at hb
     obtain ⟨rfl, rfl⟩ := hb
     have e0 : (0 : Nat) + (0 : Int).toNat * e.sz + offAt e p = offAt e p := by simp
     rw [e0] at ex'
     have hv' := SlotR.soft (soft_killD r) hv
     have hnt : (killD r (Γ.eval v)).tup = false := by
      rw [(soft_killD r).un]; exact htp
     obtain ⟨cs, hcs, ev⟩ := slot_one hv' hnt (by rintro n hn; rw [hn] at hnh; cases hnh)
     have S1 := S.soft (soft_killD r)
     obtain ⟨b1, cs1, ty1, r1, r2, r3, r4⟩ := S1.roots r _ (mem_mapC_box (look_mem hr))
     rw [q1] at r1
     simp only [Value.pointer.injEq, Option.some.injEq, Addr.mk.injEq, and_true] at r1
     subst r1
     have hzz : ZdOf Bb F (Γ.map (killD r)).roots = ZdOf Bb F Γ.roots := ZdOf_ids (mapC_ids _ _)
     rw [hzz] at r4
     obtain ⟨hp1, hp2⟩ := SVc.put r4 hf hbv hcs hty
     have hle := offAt_le hty
     rw [← fits_sz hf, ← r4.len, ← hp2] at hle
     have hone := SVc.one S.bone hnh hcs
     refine wp_skip' (hrun _ (by rw [ex', ev]; exact run_storeAt ht r3 (cells_valOf (fun hg => by
      rw [hag] at hg
      have hs1 : u.sz = 1 := by cases u <;> first | rfl | cases hg
      rw [hs1] at hp2
      match cs, hp2, hone with
      | [x], _, hone => exact ⟨x, rfl, hone x (by simp)⟩)) hp2 hone (by simpa [hp2] using hle))) ?_
     rw [hput]
     have hin1 : r ∈ Γ.roots.map (·.1) := List.mem_map.2 ⟨_, look_mem hr, rfl⟩
     refine ⟨_, β, F, hk, ?_⟩
     refine S1.setRoot (FitG.of (fit_killD r) Γ) (fun _ _ => rfl) (fun _ _ => rfl) S.bone (mem_mapC_box (look_mem hr)) (F' := F) (fun q _ hq => ?_) (by rw [upd_size]; exact Nat.le_refl _) rfl rfl rfl (fun _ _ => rfl) ⟨nodup_F hin1 S.nodup, fun q hq => ?_⟩ ?_
     ·exact upd_ne (by rintro rfl; exact hq (by rw [q2]; simp))
     ·rw [upd_size]; exact ⟨(S.own q (mem_allO.2 ⟨r, hin1, hq⟩)).1, .inl hq⟩
     ·rw [hzz]
      refine ⟨b', splice cs1 (offAt e p) cs, ty1, q1, q2, ?_, ?_⟩
      ·have := upd_get (w := w) (o := .cells (splice cs1.toArray.toList (offAt e p) cs).toArray ty1 (0, 0)) r3
       simpa [hp] using this
      ·refine SVc.mono (D := fun d => mem r d = false) (R := fun _ => True) (fun d hd q hq _ => ⟨upd_ne ?_, hq⟩) (fun _ _ => rfl) ?_ hp1
       ·rintro rfl
        rcases hq with hq | ⟨q', hq1, hq2, hq3⟩
        ·exact hq.1 (mem_allO.2 ⟨r, hin1, by rw [q2]; simp⟩)
        ·have := disj S.ids S.nodup hq2 hin1 hq3 (by rw [q2]; simp)
         subst this; exact mem_false hd hq1
       ·exact fit_svSet (fit_killD r _) (fit_killD r _) hbv
    ·exact hk.elim
   ·exact hk.elim
  ·exact hk.elim
 ·exact hk.elim
end
end Go.Proofs.YtmjeghlfmhbjdaaDoor.Eng
