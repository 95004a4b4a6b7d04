/- The engine, first part: what values in memory say (Own), and how that stands when memory changes. No condition. -/
import Derived.Below
import Derived.Laws.World
namespace Go.Proofs.YtjpeblicfhfniaaDoor.Eng
set_option linter.unusedVariables false
set_option linter.unusedSimpArgs false

inductive Ty where
  | unit | int (k : IntKind) | bool | str | pair (a b : Ty) | sl (e : Ty)
  | any | arr (n : Nat) (e : Ty) | mp (k v : Ty) | ptr (e : Ty) | inil | ialt (t : TypeId) (a r : Ty)
  deriving DecidableEq
@[reducible] def Ty.den : Ty → Type
  | .unit => Unit | .int _ => Int | .bool => Bool | .str => ByteArray | .pair a b => a.den × b.den | .sl e => List e.den
  | .any => Value | .arr _ e => List e.den | .mp k v => Option (List (k.den × v.den)) | .ptr e => Option e.den | .inil => Unit | .ialt _ a r => a.den ⊕ r.den
def Ty.zero : (t : Ty) → t.den
  | .unit => () | .int _ => (0 : Int) | .bool => false | .str => ByteArray.empty | .pair a b => (a.zero, b.zero) | .sl _ => []
  | .any => Value.nilIface | .arr n e => List.replicate n e.zero | .mp _ _ => none | .ptr _ => none | .inil => () | .ialt _ _ r => .inr r.zero
def Ty.sz : Ty → Nat
  | .unit => 0 | .pair a b => a.sz + b.sz | .arr n e => n * e.sz | _ => 1
def Ty.agg : Ty → Bool
  | .unit => true | .pair _ _ => true | .arr _ _ => true | _ => false
/-- The cells of the zero value. -/
def Ty.zc : Ty → List Value
  | .unit => [] | .int k => [.int k 0] | .bool => [.bool false] | .str => [.string ByteArray.empty] | .pair a b => a.zc ++ b.zc | .sl _ => [.slice none 0 0]
  | .any => [.nilIface] | .arr n e => (List.replicate n e.zc).flatten | .mp _ _ => [.map none] | .ptr _ => [.pointer none] | .inil => [.nilIface] | .ialt _ _ _ => [.nilIface]
def InK (k : IntKind) (x : Int) : Prop := k.min ≤ x ∧ x ≤ k.max
def maxL : Nat := 2 ^ 47
def seg (l : List Value) (o n : Nat) : List Value := (l.drop o).take n
abbrev Hp := Nat → Option Obj
/-- the value of one cell -/
def one : Value → Bool
  | .agg _ => false | .tuple _ => false | _ => true
def valOf (agg : Bool) (cs : List Value) : Value := if agg then .agg cs.toArray else cs.headD undef
/-- What a map holds: its entries in the order of the object, the keys and values as data; the entries' births. -/
structure MapR {α γ : Type} (ka va : Bool) (RK : List Value → α → Prop) (RV : List Value → γ → Prop) (es : Array MapEntry) (cl : Nat) (xs : List (α × γ)) : Prop where
  len : es.size = xs.length
  key : ∀ (i : Nat) (e : MapEntry) (x : α × γ), es[i]? = some e → xs[i]? = some x → ∃ ck, e.key = valOf ka ck ∧ RK ck x.1
  val : ∀ (i : Nat) (e : MapEntry) (x : α × γ), es[i]? = some e → xs[i]? = some x → ∃ cv, e.val = valOf va cv ∧ RV cv x.2
  nodup : (es.toList.map (·.born)).Nodup
  born : ∀ e ∈ es.toList, e.born < cl
def hp (w : World) : Hp := fun b => w.heap[b]?

/-- A row that is read: sz cells an element, from the place A on. -/
def Row0 {α : Type} (h : Hp) (Z : Nat → Prop) (sz : Nat) (R : List Value → α → Prop) (A : Option Addr) (xs : List α) : Prop :=
  xs ≠ [] → ∃ b o arr ty fz, A = some ⟨b, o, none⟩ ∧ Z b ∧ h b = some (.cells arr ty fz) ∧ o + xs.length * sz ≤ arr.size ∧
    ∀ i x, xs[i]? = some x → R (seg arr.toList (o + i * sz) sz) x
/-- A row that is one's own, its block with it. -/
def RowN {α : Type} (h : Hp) (sz : Nat) (R : List Nat → List Value → α → Prop) (B : List Nat) (A : Option Addr) (c : Nat) (xs : List α) : Prop :=
  (A = none ∧ c = 0 ∧ xs = [] ∧ B = []) ∨
  ∃ (b o : Nat) (arr : Array Value) (ty : TypeId) (Bs : List (List Nat)), A = some ⟨b, o, none⟩ ∧ h b = some (.cells arr ty (0, 0)) ∧ o + c * sz ≤ arr.size ∧ B = b :: Bs.flatten ∧ Bs.length = xs.length ∧
    ∀ i x Bi, xs[i]? = some x → Bs[i]? = some Bi → R Bi (seg arr.toList (o + i * sz) sz) x

/-- The cells cs hold x; n levels of rows are one's own (their blocks: B); the others are read only, in blocks of Z. -/
def Own (h : Hp) (Z : Nat → Prop) : (t : Ty) → Nat → List Nat → List Value → t.den → Prop
  | .unit, _, B, cs, _ => B = [] ∧ cs = []
  | .int k, _, B, cs, x => B = [] ∧ cs = [.int k x] ∧ InK k x
  | .bool, _, B, cs, x => B = [] ∧ cs = [.bool x]
  | .str, _, B, cs, x => B = [] ∧ cs = [.string x] ∧ x.size ≤ maxL
  | .pair a b, n, B, cs, x => ∃ B1 B2 c1 c2, B = B1 ++ B2 ∧ cs = c1 ++ c2 ∧ Own h Z a n B1 c1 x.1 ∧ Own h Z b n B2 c2 x.2
  | .sl e, n, B, cs, xs => ∃ A c, cs = [.slice A xs.length c] ∧ xs.length ≤ c ∧ xs.length ≤ maxL ∧
      match n with
      | 0 => B = [] ∧ Row0 h Z e.sz (Own h Z e 0 []) A xs
      | m + 1 => RowN h e.sz (Own h Z e m) B A c xs
  | .any, _, B, cs, x => B = [] ∧ cs = [x] ∧ one x = true
  | .arr n e, _, B, cs, xs => B = [] ∧ xs.length = n ∧ cs.length = n * e.sz ∧ ∀ i x, xs[i]? = some x → Own h Z e 0 [] (seg cs (i * e.sz) e.sz) x
  | .mp k v, n, B, cs, x => match x with
    | none => B = [] ∧ cs = [.map none]
    | some xs => ∃ b es cl, cs = [.map (some b)] ∧ h b = some (.map es cl) ∧ (match n with | 0 => B = [] ∧ Z b | _ + 1 => B = [b]) ∧
      MapR k.agg v.agg (Own h Z k 0 []) (Own h Z v 0 []) es cl xs
  | .ptr e, n, B, cs, x => match x with
    | none => B = [] ∧ cs = [.pointer none]
    | some y => match n with
      | 0 => B = [] ∧ ∃ b o arr ty fz, cs = [.pointer (some ⟨b, o, none⟩)] ∧ Z b ∧ h b = some (.cells arr ty fz) ∧ o + e.sz ≤ arr.size ∧ Own h Z e 0 [] (seg arr.toList o e.sz) y
      | m + 1 => ∃ b cs' ty B', cs = [.pointer (some ⟨b, 0, none⟩)] ∧ B = b :: B' ∧ h b = some (.cells cs'.toArray ty (0, 0)) ∧ Own h Z e m B' cs' y
  | .inil, _, B, cs, _ => B = [] ∧ cs = [.nilIface]
  | .ialt t a r, n, B, cs, x => match x with
    | .inl y => ∃ cs', cs = [.iface t (valOf a.agg cs')] ∧ Own h Z a n B cs' y
    | .inr y => (B = [] ∧ cs = [.nilIface] ∧ y = r.zero) ∨ (cs.length = 1 ∧ Own h Z r n B cs y)

section
variable {h h' : Hp} {Z Z' : Nat → Prop}
theorem Own.len : ∀ {t : Ty} {n : Nat} {B : List Nat} {cs : List Value} {x : t.den}, Own h Z t n B cs x → cs.length = t.sz
  | .unit, _, _, _, _, ⟨_, e⟩ => by rw [e]; rfl
  | .int k, _, _, _, _, ⟨_, e, _⟩ => by rw [e]; rfl
  | .bool, _, _, _, _, ⟨_, e⟩ => by rw [e]; rfl
  | .str, _, _, _, _, ⟨_, e, _⟩ => by rw [e]; rfl
  | .pair a b, _, _, _, _, ⟨_, _, _, _, _, e, h1, h2⟩ => by rw [e, List.length_append, h1.len, h2.len]; rfl
  | .sl e, _, _, _, _, ⟨_, _, e', _⟩ => by rw [e']; rfl
  | .any, _, _, _, _, ⟨_, e', _⟩ => by rw [e']; rfl
  | .arr _ _, _, _, _, _, ⟨_, _, e', _⟩ => e'
  | .mp _ _, _, _, _, none, ⟨_, e'⟩ => by rw [e']; rfl
  | .mp _ _, _, _, _, some _, ⟨_, _, _, e', _⟩ => by rw [e']; rfl
  | .ptr _, _, _, _, none, ⟨_, e'⟩ => by rw [e']; rfl
  | .ptr _, 0, _, _, some _, ⟨_, _, _, _, _, _, e', _⟩ => by rw [e']; rfl
  | .ptr _, _ + 1, _, _, some _, ⟨_, _, _, _, e', _⟩ => by rw [e']; rfl
  | .inil, _, _, _, _, ⟨_, e'⟩ => by rw [e']; rfl
  | .ialt _ _ _, _, _, _, .inl _, ⟨_, e', _⟩ => by rw [e']; rfl
  | .ialt _ _ _, _, _, _, .inr _, o => by
      rcases o with ⟨_, e', _⟩ | ⟨e', _⟩
      · rw [e']; rfl
      · rw [e']; rfl
theorem Own.b0 : ∀ {t : Ty} {B : List Nat} {cs : List Value} {x : t.den}, Own h Z t 0 B cs x → B = []
  | .unit, _, _, _, ⟨e, _⟩ => e
  | .int k, _, _, _, ⟨e, _⟩ => e
  | .bool, _, _, _, ⟨e, _⟩ => e
  | .str, _, _, _, ⟨e, _⟩ => e
  | .pair a b, _, _, _, ⟨_, _, _, _, e, _, h1, h2⟩ => by rw [e, h1.b0, h2.b0]; rfl
  | .sl e, _, _, _, ⟨_, _, _, _, _, e', _⟩ => e'
  | .any, _, _, _, ⟨e, _⟩ => e
  | .arr _ _, _, _, _, ⟨e, _⟩ => e
  | .mp _ _, _, _, none, ⟨e, _⟩ => e
  | .mp _ _, _, _, some _, ⟨_, _, _, _, _, ⟨e, _⟩, _⟩ => e
  | .ptr _, _, _, none, ⟨e, _⟩ => e
  | .ptr _, _, _, some _, ⟨e, _⟩ => e
  | .inil, _, _, _, ⟨e, _⟩ => e
  | .ialt _ _ _, _, _, .inl _, ⟨_, _, o⟩ => o.b0
  | .ialt _ _ _, _, _, .inr _, o => by
      rcases o with ⟨e, _⟩ | ⟨_, o⟩
      · exact e
      · exact o.b0
theorem MapR.imp {α γ : Type} {ka va : Bool} {RK RK' : List Value → α → Prop} {RV RV' : List Value → γ → Prop} {es : Array MapEntry} {cl : Nat} {xs : List (α × γ)} (hk : ∀ c x, RK c x → RK' c x) (hv : ∀ c x, RV c x → RV' c x) (m : MapR ka va RK RV es cl xs) : MapR ka va RK' RV' es cl xs :=
  ⟨m.len, fun i e x h1 h2 => (m.key i e x h1 h2).imp fun c ⟨a, b⟩ => ⟨a, hk c _ b⟩, fun i e x h1 h2 => (m.val i e x h1 h2).imp fun c ⟨a, b⟩ => ⟨a, hv c _ b⟩, m.nodup, m.born⟩
theorem Own.mono (hz : ∀ b, Z b → (h b).isSome → h' b = h b ∧ Z' b) : ∀ {t : Ty} {n : Nat} {B : List Nat} {cs : List Value} {x : t.den}, (∀ b ∈ B, h' b = h b) → Own h Z t n B cs x → Own h' Z' t n B cs x
  | .unit, _, _, _, _, _, o => o
  | .int k, _, _, _, _, _, o => o
  | .bool, _, _, _, _, _, o => o
  | .str, _, _, _, _, _, o => o
  | .pair a b, _, _, _, _, hb, ⟨B1, B2, c1, c2, e1, e2, h1, h2⟩ => ⟨B1, B2, c1, c2, e1, e2, h1.mono hz (fun b m => hb b (by rw [e1]; simp [m])), h2.mono hz (fun b m => hb b (by rw [e1]; simp [m]))⟩
  | .sl e, 0, _, _, _, _, ⟨A, c, e1, e2, e3, e4, r⟩ => ⟨A, c, e1, e2, e3, e4, fun hx => by
      obtain ⟨b, o, arr, ty, fz, ha, hzb, hh, hl, hr⟩ := r hx
      obtain ⟨q1, q2⟩ := hz b hzb (by rw [hh]; rfl)
      exact ⟨b, o, arr, ty, fz, ha, q2, q1.trans hh, hl, fun i x hi => (hr i x hi).mono hz (fun _ m => by cases m)⟩⟩
  | .sl e, n + 1, _, _, _, hb, ⟨A, c, e1, e2, e3, r⟩ => ⟨A, c, e1, e2, e3, by
      rcases r with r | ⟨b, o, arr, ty, Bs, ha, hh, hl, hB, hn, hr⟩
      · exact Or.inl r
      · refine Or.inr ⟨b, o, arr, ty, Bs, ha, (hb b (by rw [hB]; simp)).trans hh, hl, hB, hn, fun i x Bi hi hj => (hr i x Bi hi hj).mono hz (fun k m => hb k ?_)⟩
        rw [hB]; exact List.mem_cons_of_mem _ (List.mem_flatten.2 ⟨Bi, List.mem_of_getElem? hj, m⟩)⟩
  | .any, _, _, _, _, _, o => o
  | .arr _ e, _, _, _, _, _, ⟨e1, e2, e3, r⟩ => ⟨e1, e2, e3, fun i x hi => (r i x hi).mono hz (fun _ m => by cases m)⟩
  | .mp _ _, _, _, _, none, _, o => o
  | .mp k v, n, _, _, some _, hb, ⟨b, es, cl, e1, e2, e3, r⟩ => by
      have r' := r.imp (fun c x (o : Own h Z k 0 [] c x) => o.mono hz (fun _ m => by cases m)) (fun c x (o : Own h Z v 0 [] c x) => o.mono hz (fun _ m => by cases m))
      cases n with
      | zero => obtain ⟨q1, q2⟩ := hz b e3.2 (by rw [e2]; rfl); exact ⟨b, es, cl, e1, q1.trans e2, ⟨e3.1, q2⟩, r'⟩
      | succ n => exact ⟨b, es, cl, e1, (hb b (by rw [e3]; simp)).trans e2, e3, r'⟩
  | .ptr _, _, _, _, none, _, o => o
  | .ptr e, 0, _, _, some _, _, ⟨e1, b, o, arr, ty, fz, e2, z, e3, e4, r⟩ => by
      obtain ⟨q1, q2⟩ := hz b z (by rw [e3]; rfl)
      exact ⟨e1, b, o, arr, ty, fz, e2, q2, q1.trans e3, e4, r.mono hz (fun _ m => by cases m)⟩
  | .ptr e, n + 1, _, _, some _, hb, ⟨b, cs', ty, B', e1, e2, e3, r⟩ =>
      ⟨b, cs', ty, B', e1, e2, (hb b (by rw [e2]; simp)).trans e3, r.mono hz (fun k m => hb k (by rw [e2]; exact List.mem_cons_of_mem _ m))⟩
  | .inil, _, _, _, _, _, o => o
  | .ialt _ a _, _, _, _, .inl _, hb, ⟨cs', e1, r⟩ => ⟨cs', e1, r.mono hz hb⟩
  | .ialt _ _ r', _, _, _, .inr _, hb, o => by
      rcases o with o | ⟨e1, r⟩
      · exact .inl o
      · exact .inr ⟨e1, r.mono hz hb⟩
theorem Own.freeze (hz : ∀ b, Z b → Z' b) : ∀ {t : Ty} {n : Nat} {B : List Nat} {cs : List Value} {x : t.den}, (∀ b ∈ B, Z' b) → Own h Z t n B cs x → Own h Z' t 0 [] cs x
  | .unit, _, _, _, _, _, o => ⟨rfl, o.2⟩
  | .int k, _, _, _, _, _, o => ⟨rfl, o.2⟩
  | .bool, _, _, _, _, _, o => ⟨rfl, o.2⟩
  | .str, _, _, _, _, _, o => ⟨rfl, o.2⟩
  | .pair a b, _, _, _, _, hb, ⟨B1, B2, c1, c2, e1, e2, h1, h2⟩ => ⟨[], [], c1, c2, rfl, e2, h1.freeze hz (fun b m => hb b (by rw [e1]; simp [m])), h2.freeze hz (fun b m => hb b (by rw [e1]; simp [m]))⟩
  | .sl e, 0, _, _, _, _, ⟨A, c, e1, e2, e3, e4, r⟩ => ⟨A, c, e1, e2, e3, rfl, fun hx => by
      obtain ⟨b, o, arr, ty, fz, ha, hzb, hh, hl, hr⟩ := r hx
      exact ⟨b, o, arr, ty, fz, ha, hz b hzb, hh, hl, fun i x hi => (hr i x hi).freeze hz (fun _ m => by cases m)⟩⟩
  | .sl e, n + 1, _, _, _, hb, ⟨A, c, e1, e2, e3, r⟩ => ⟨A, c, e1, e2, e3, rfl, fun hx => by
      rcases r with ⟨_, _, r, _⟩ | ⟨b, o, arr, ty, Bs, ha, hh, hl, hB, hn, hr⟩
      · exact absurd r hx
      · refine ⟨b, o, arr, ty, (0, 0), ha, hb b (by rw [hB]; simp), hh, Nat.le_trans (Nat.add_le_add_left (Nat.mul_le_mul_right _ e2) _) hl, fun i x hi => ?_⟩
        have hi' : i < Bs.length := by rw [hn]; exact (List.getElem?_eq_some_iff.1 hi).1
        refine (hr i x Bs[i] hi (List.getElem?_eq_getElem hi')).freeze hz (fun k m => hb k ?_)
        rw [hB]; exact List.mem_cons_of_mem _ (List.mem_flatten.2 ⟨_, List.getElem_mem hi', m⟩)⟩
  | .any, _, _, _, _, _, o => ⟨rfl, o.2⟩
  | .arr _ e, _, _, _, _, _, ⟨e1, e2, e3, r⟩ => ⟨rfl, e2, e3, fun i x hi => (r i x hi).freeze hz (fun _ m => by cases m)⟩
  | .mp _ _, _, _, _, none, _, o => ⟨rfl, o.2⟩
  | .mp k v, n, _, _, some _, hb, ⟨b, es, cl, e1, e2, e3, r⟩ => by
      have r' := r.imp (fun c x (o : Own h Z k 0 [] c x) => o.freeze hz (fun _ m => by cases m)) (fun c x (o : Own h Z v 0 [] c x) => o.freeze hz (fun _ m => by cases m))
      cases n with
      | zero => exact ⟨b, es, cl, e1, e2, ⟨rfl, hz b e3.2⟩, r'⟩
      | succ n => exact ⟨b, es, cl, e1, e2, ⟨rfl, hb b (by rw [e3]; simp)⟩, r'⟩
  | .ptr _, _, _, _, none, _, o => ⟨rfl, o.2⟩
  | .ptr e, 0, _, _, some _, _, ⟨e1, b, o, arr, ty, fz, e2, z, e3, e4, r⟩ => ⟨rfl, b, o, arr, ty, fz, e2, hz b z, e3, e4, r.freeze hz (fun _ m => by cases m)⟩
  | .ptr e, n + 1, _, _, some _, hb, ⟨b, cs', ty, B', e1, e2, e3, r⟩ => by
      have r' := r.freeze hz (fun k m => hb k (by rw [e2]; exact List.mem_cons_of_mem _ m))
      have hl := r.len
      refine ⟨rfl, b, 0, cs'.toArray, ty, (0, 0), e1, hb b (by rw [e2]; simp), e3, by simp [hl], ?_⟩
      have : seg cs'.toArray.toList 0 e.sz = cs' := by unfold seg; simp [← hl]
      rw [this]; exact r'
  | .inil, _, _, _, _, _, o => ⟨rfl, o.2⟩
  | .ialt _ a _, _, _, _, .inl _, hb, ⟨cs', e1, r⟩ => ⟨cs', e1, r.freeze hz hb⟩
  | .ialt _ _ r', _, _, _, .inr _, hb, o => by
      rcases o with ⟨_, o⟩ | ⟨e1, r⟩
      · exact .inl ⟨rfl, o⟩
      · exact .inr ⟨e1, r.freeze hz hb⟩
theorem Own.weaken (hz : ∀ b, Z b → Z' b) {t : Ty} {n : Nat} {B : List Nat} {cs : List Value} {x : t.den} (o : Own h Z t n B cs x) : Own h Z' t n B cs x :=
  o.mono (fun b hb _ => ⟨rfl, hz b hb⟩) (fun _ _ => rfl)
theorem seg_rep {l : List Value} : ∀ (n i : Nat), i < n → seg (List.replicate n l).flatten (i * l.length) l.length = l
  | 0, _, h => by omega
  | n + 1, 0, _ => by unfold seg; simp [List.replicate_succ]
  | n + 1, i + 1, h => by
    have ih := seg_rep (l := l) n i (by omega)
    unfold seg at ih ⊢
    rw [List.replicate_succ, List.flatten_cons, List.drop_append]
    rw [show (i + 1) * l.length = l.length + i * l.length by rw [Nat.succ_mul, Nat.add_comm]]
    rw [List.drop_of_length_le (by omega)]
    simpa using ih
theorem Ty.zc_len : ∀ t : Ty, t.zc.length = t.sz
  | .unit => rfl | .int _ => rfl | .bool => rfl | .str => rfl | .sl _ => rfl | .any => rfl | .mp _ _ => rfl | .ptr _ => rfl | .inil => rfl | .ialt _ _ _ => rfl
  | .pair a b => by simp [Ty.zc, Ty.sz, zc_len a, zc_len b]
  | .arr n e => by simp [Ty.zc, Ty.sz, zc_len e]
theorem Own.zero : ∀ (t : Ty) (n : Nat), Own h Z t n [] t.zc t.zero
  | .unit, _ => ⟨rfl, rfl⟩
  | .int k, _ => ⟨rfl, rfl, by unfold InK IntKind.min IntKind.max IntKind.signed IntKind.bits; cases k <;> decide⟩
  | .bool, _ => ⟨rfl, rfl⟩
  | .str, _ => ⟨rfl, rfl, Nat.zero_le _⟩
  | .pair a b, n => ⟨[], [], a.zc, b.zc, rfl, rfl, Own.zero a n, Own.zero b n⟩
  | .sl e, 0 => ⟨none, 0, rfl, Nat.le_refl _, Nat.zero_le _, rfl, fun hx => absurd rfl hx⟩
  | .sl e, n + 1 => ⟨none, 0, rfl, Nat.le_refl _, Nat.zero_le _, Or.inl ⟨rfl, rfl, rfl, rfl⟩⟩
  | .any, _ => ⟨rfl, rfl, rfl⟩
  | .arr m e, _ => ⟨rfl, List.length_replicate, Ty.zc_len (.arr m e), fun i x hx => by
      have hx' : (List.replicate m e.zero)[i]? = some x := hx
      rw [List.getElem?_replicate] at hx'
      split at hx'
      · rename_i hi
        simp only [Option.some.injEq] at hx'; subst hx'
        have := seg_rep (l := e.zc) m i hi
        rw [Ty.zc_len] at this
        show Own h Z e 0 [] (seg (List.replicate m e.zc).flatten _ _) _
        rw [this]; exact Own.zero e 0
      · cases hx'⟩
  | .mp _ _, _ => ⟨rfl, rfl⟩
  | .ptr _, _ => ⟨rfl, rfl⟩
  | .inil, _ => ⟨rfl, rfl⟩
  | .ialt _ _ _, _ => .inl ⟨rfl, rfl, rfl⟩
theorem Own.nil (e : Ty) : ∀ n, Own h Z (.sl e) n [] [.slice none 0 0] []
  | 0 => ⟨none, 0, rfl, Nat.le_refl _, Nat.zero_le _, rfl, fun hx => absurd rfl hx⟩
  | n + 1 => ⟨none, 0, rfl, Nat.le_refl _, Nat.zero_le _, Or.inl ⟨rfl, rfl, rfl, rfl⟩⟩
end
/-! ### what data in memory is -/
def WF : (t : Ty) → t.den → Prop
  | .unit, _ => True
  | .int k, x => InK k x
  | .bool, _ => True
  | .str, s => s.size ≤ maxL
  | .pair a b, x => WF a x.1 ∧ WF b x.2
  | .sl e, xs => xs.length ≤ maxL ∧ ∀ x ∈ xs, WF e x
  | .any, _ => True
  | .arr n e, xs => xs.length = n ∧ ∀ x ∈ xs, WF e x
  | .mp k v, x => ∀ xs, x = some xs → ∀ x ∈ xs, WF k x.1 ∧ WF v x.2
  | .ptr e, x => ∀ y, x = some y → WF e y
  | .inil, _ => True
  | .ialt _ a r, x => match x with | .inl y => WF a y | .inr y => WF r y
theorem Own.wf {h : Hp} {Z : Nat → Prop} : ∀ {t : Ty} {n : Nat} {B : List Nat} {cs : List Value} {x : t.den}, Own h Z t n B cs x → WF t x
  | .unit, _, _, _, _, _ => trivial
  | .int k, _, _, _, _, o => o.2.2
  | .bool, _, _, _, _, _ => trivial
  | .str, _, _, _, _, o => o.2.2
  | .pair a b, _, _, _, _, ⟨_, _, _, _, _, _, o1, o2⟩ => ⟨o1.wf, o2.wf⟩
  | .sl e, 0, _, _, _, ⟨A, c, e1, e2, e3, e4, r⟩ => ⟨e3, fun x hx => by
      have hne : _ ≠ [] := List.ne_nil_of_mem hx
      obtain ⟨b, o, arr, ty, fz, _, _, _, _, hr⟩ := r hne
      obtain ⟨i, hi, rfl⟩ := List.mem_iff_getElem.1 hx
      exact (hr i _ (List.getElem?_eq_getElem hi)).wf⟩
  | .sl e, n + 1, _, _, _, ⟨A, c, e1, e2, e3, r⟩ => ⟨e3, fun x hx => by
      rcases r with ⟨_, _, r, _⟩ | ⟨b, o, arr, ty, Bs, _, _, _, _, hn, hr⟩
      · subst r; cases hx
      · obtain ⟨i, hi, rfl⟩ := List.mem_iff_getElem.1 hx
        have hB : i < Bs.length := by rw [hn]; exact hi
        exact (hr i _ _ (List.getElem?_eq_getElem hi) (List.getElem?_eq_getElem hB)).wf⟩
  | .any, _, _, _, _, _ => trivial
  | .arr _ _, _, _, _, _, ⟨_, e2, _, r⟩ => ⟨e2, fun x hx => by
      obtain ⟨i, hi, rfl⟩ := List.mem_iff_getElem.1 hx
      exact (r i _ (List.getElem?_eq_getElem hi)).wf⟩
  | .mp _ _, _, _, _, none, _ => fun xs hy => by cases hy
  | .mp _ _, _, _, _, some _, ⟨b, es, cl, _, _, _, r⟩ => fun xs hy x hx => by
      cases hy
      obtain ⟨i, hi, rfl⟩ := List.mem_iff_getElem.1 hx
      have hi' : i < es.size := by rw [r.len]; exact hi
      obtain ⟨_, _, h1⟩ := r.key i _ _ (Array.getElem?_eq_getElem hi') (List.getElem?_eq_getElem hi)
      obtain ⟨_, _, h2⟩ := r.val i _ _ (Array.getElem?_eq_getElem hi') (List.getElem?_eq_getElem hi)
      exact ⟨Own.wf h1, Own.wf h2⟩
  | .ptr _, _, _, _, none, _ => fun y hy => by cases hy
  | .ptr _, 0, _, _, some _, ⟨_, _, _, _, _, _, _, _, _, _, r⟩ => fun y hy => by cases hy; exact r.wf
  | .ptr _, _ + 1, _, _, some _, ⟨_, _, _, _, _, _, _, r⟩ => fun y hy => by cases hy; exact r.wf
  | .inil, _, _, _, _, _ => trivial
  | .ialt _ a _, _, _, _, .inl _, ⟨_, _, r⟩ => r.wf
  | .ialt _ _ r', _, _, _, .inr y, o => by
      rcases o with ⟨_, _, rfl⟩ | ⟨_, r⟩
      · exact (Own.zero (h := h) (Z := Z) r' 0).wf
      · exact r.wf
end Go.Proofs.YtjpeblicfhfniaaDoor.Eng
