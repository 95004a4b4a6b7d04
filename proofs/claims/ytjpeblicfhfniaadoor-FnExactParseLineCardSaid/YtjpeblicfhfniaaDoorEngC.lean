/- The engine, third part: what the machine's state says of a frame and a world (Sim), and how that is kept. No condition. -/
import Derived.Test.YtjpeblicfhfniaaDoorEngB
import Derived.Calls
namespace Go.Proofs.YtjpeblicfhfniaaDoor.Eng
open Go.RowKit
set_option linter.unusedVariables false
set_option linter.unusedSimpArgs false

def baseA : Value → Option (Nat × Nat)
  | .slice (some ⟨b, o, none⟩) _ _ => some (b, o)
  | .pointer (some ⟨b, o, none⟩) => some (b, o)
  | _ => none
/-- The world has changed in no block but those of O, and new ones. -/
structure Frm (O : List Nat) (w w' : World) : Prop where
  os : w'.os = w.os
  tape : w'.tape = w.tape
  output : w'.output = w.output
  size : w.heap.size ≤ w'.heap.size
  block : ∀ k, k < w.heap.size → k ∉ O → w'.heap[k]? = w.heap[k]?
theorem Frm.refl (O : List Nat) (w : World) : Frm O w w := ⟨rfl, rfl, rfl, Nat.le_refl _, fun _ _ _ => rfl⟩
theorem Frm.below {w w' : World} (h : Frm [] w w') : Below w.heap.size w w' := ⟨h.os, h.tape, h.output, h.size, fun k hk => h.block k hk (by simp)⟩

/-- The package's variables hold these values. -/
def GOk (h : Hp) (Z : Nat → Prop) (l : List (Nat × Value)) : Prop := ∀ p ∈ l, Z p.1 ∧ ∃ arr ty fz, h p.1 = some (.cells arr ty fz) ∧ arr[0]? = some p.2
section
variable (h : Hp) (Zd : List Nat → Nat → Prop) (β : Nat → Value)
def SVc : SV → List Value → Prop
  | .hole n, cs => cs.length = n
  | .pv d t x, cs => Own h (Zd d) t 0 [] cs x
  | .nils, cs => cs = [.slice none 0 0]
  | .ref r, cs => cs = [β r]
  | .ad r e i p, cs => ∃ b o, baseA (β r) = some (b, o) ∧ cs = [.pointer (some ⟨b, o + i.toNat * e.sz + offAt e p, none⟩)]
  | .fad d e xs i p, cs => 0 ≤ i ∧ i < xs.length ∧ ∃ b o arr ty fz, Zd d b ∧ h b = some (.cells arr ty fz) ∧ o + xs.length * e.sz ≤ arr.size ∧
      (∀ j x, xs[j]? = some x → Own h (Zd d) e 0 [] (seg arr.toList (o + j * e.sz) e.sz) x) ∧ cs = [.pointer (some ⟨b, o + i.toNat * e.sz + offAt e p, none⟩)]
  | .nilA, cs => cs = []
  | .consA a b, cs => ∃ c1 c2, cs = c1 ++ c2 ∧ SVc a c1 ∧ SVc b c2
  | .nilT, _ => False
  | .consT _ _, _ => False
  | .nilI, cs => cs = [.nilIface]
  | .nilP, cs => cs = [.pointer none]
  | .nilM, cs => cs = [.map none]
  | .arp r e n, cs => ∃ b, β r = .slice (some ⟨b, 0, none⟩) n n ∧ cs = [.pointer (some ⟨b, 0, none⟩)]
  | .vw r e lo hi, cs => ∃ b o len c, β r = .slice (some ⟨b, o, none⟩) len c ∧ 0 ≤ lo ∧ lo ≤ hi ∧ hi ≤ len ∧ len ≤ c ∧ cs = [.slice (some ⟨b, o + lo.toNat * e.sz, none⟩) (hi.toNat - lo.toNat) (c - lo.toNat)]
  | .ifs t a v, cs => ∃ cs', cs = [.iface t (valOf a.agg cs')] ∧ SVc v cs'
  | .gl g, cs => cs = [.pointer (some ⟨g, 0, none⟩)]
  | .fn f, cs => cs = [.func (.func f) #[] #[]]
def Slot1 (v : SV) (x : Value) : Prop := (∃ n, v = .hole n) ∨ ∃ cs, SVc h Zd β v cs ∧ x = valOf v.isAgg cs
def TupR : SV → List Value → Prop
  | .nilT, l => l = []
  | .consT a b, l => ∃ x l', l = x :: l' ∧ Slot1 h Zd β a x ∧ TupR b l'
  | _, _ => False
def SlotR (v : SV) (x : Value) : Prop := (v.tup = true ∧ ∃ l : List Value, x = .tuple l.toArray ∧ TupR h Zd β v l) ∨ (v.tup = false ∧ Slot1 h Zd β v x)
def RootR (B : List Nat) (r : Nat) : Ch → Prop
  | .row lvl e xs => Own h (Zd []) (.sl e) (lvl + 1) B [β r] xs
  | .box v => ∃ b cs ty, β r = .pointer (some ⟨b, 0, none⟩) ∧ B = [b] ∧ h b = some (.cells cs.toArray ty (0, 0)) ∧ SVc h Zd β v cs
  | .iter s p => ∃ b n, β r = .pointer (some ⟨b, 0, none⟩) ∧ B = [b] ∧ h b = some (.stringIter s n) ∧ p = (n : Int) ∧ s.size ≤ maxL
  | .mp k v xs => Own h (Zd []) (.mp k v) 1 B [β r] (some xs)
  | .glob l => B = [] ∧ GOk h (Zd []) l
def AnchR : List SV → List Value → Prop
  | [], [] => True
  | v :: l, x :: m => SlotR h Zd β v x ∧ AnchR l m
  | _, _ => False
end

def allO (F : Nat → List Nat) (R : List (Nat × Ch)) : List Nat := (R.map fun p => F p.1).flatten
def ZdOf (Bb : Nat → Prop) (F : Nat → List Nat) (R : List (Nat × Ch)) (d : List Nat) (b : Nat) : Prop := (b ∉ allO F R ∧ Bb b) ∨ ∃ r ∈ d, r ∈ R.map (·.1) ∧ b ∈ F r

structure Sim (Bb : Nat → Prop) (w0 : World) (O0 : List Nat) (av : List Value) (Γ : Ctx) (a : Act) (w : World) (β : Nat → Value) (F : Nat → List Nat) : Prop where
  size : a.tmps.size = Γ.nt
  defers : a.defers = []
  slots : ∀ n v, (n, v) ∈ Γ.slots → ∃ x, a.tmps[n]? = some x ∧ SlotR (hp w) (ZdOf Bb F Γ.roots) β v x
  roots : ∀ r c, (r, c) ∈ Γ.roots → RootR (hp w) (ZdOf Bb F Γ.roots) β (F r) r c
  anch : AnchR (hp w) (ZdOf Bb F Γ.roots) β Γ.anch av
  ids : (Γ.roots.map (·.1)).Nodup
  nodup : (allO F Γ.roots).Nodup
  own : ∀ b ∈ allO F Γ.roots, b < w.heap.size ∧ (b ∈ O0 ∨ w0.heap.size ≤ b)
  frm : Frm O0 w0 w
  bone : ∀ q, one (β q) = true
  base : ∀ b, (b ∈ O0 ∨ w0.heap.size ≤ b) → Bb b

/-- All that v reads out of, all that it names. -/
def Fit (D : List Nat → Prop) (R : Nat → Prop) : SV → Prop
  | .pv d t x => D d
  | .ref r => R r
  | .ad r _ _ _ => R r
  | .fad d _ _ _ _ => D d
  | .consA a b => Fit D R a ∧ Fit D R b
  | .consT a b => Fit D R a ∧ Fit D R b
  | .arp r _ _ => R r
  | .vw r _ _ _ => R r
  | .ifs _ _ v => Fit D R v
  | _ => True

section
variable {h h' : Hp} {Zd Zd' : List Nat → Nat → Prop} {β β' : Nat → Value} {D : List Nat → Prop} {R : Nat → Prop}
theorem SVc.len : ∀ {v : SV} {cs : List Value}, SVc h Zd β v cs → cs.length = v.sz
  | .hole n, cs, o => o
  | .pv d t x, cs, o => Own.len (show Own h (Zd d) t 0 [] cs x from o)
  | .nils, cs, o => by rw [o]; rfl
  | .ref r, cs, o => by rw [o]; rfl
  | .ad r e i p, cs, ⟨_, _, _, o⟩ => by rw [o]; rfl
  | .fad d e xs i p, cs, ⟨_, _, _, _, _, _, _, _, _, _, _, o⟩ => by rw [o]; rfl
  | .nilA, cs, o => by rw [o]; rfl
  | .consA a b, cs, ⟨c1, c2, e, o1, o2⟩ => by rw [e, List.length_append, SVc.len o1, SVc.len o2]; rfl
  | .nilT, _, o => o.elim
  | .consT _ _, _, o => o.elim
  | .nilI, cs, o => by rw [o]; rfl
  | .nilP, cs, o => by rw [o]; rfl
  | .nilM, cs, o => by rw [o]; rfl
  | .arp _ _ _, cs, ⟨_, _, o⟩ => by rw [o]; rfl
  | .vw _ _ _ _, cs, ⟨_, _, _, _, _, _, _, _, _, o⟩ => by rw [o]; rfl
  | .ifs _ _ _, cs, ⟨_, o, _⟩ => by rw [o]; rfl
  | .gl _, cs, o => by rw [o]; rfl
  | .fn _, cs, o => by rw [o]; rfl
theorem SVc.mono (hz : ∀ d, D d → ∀ b, Zd d b → (h b).isSome → h' b = h b ∧ Zd' d b) (hβ : ∀ q, R q → β' q = β q) : ∀ {v : SV} {cs : List Value}, Fit D R v → SVc h Zd β v cs → SVc h' Zd' β' v cs
  | .hole n, cs, _, o => o
  | .pv d t x, cs, f, o => Own.mono (hz d f) (fun _ m => by cases m) (show Own h (Zd d) t 0 [] cs x from o)
  | .nils, cs, _, o => o
  | .ref r, cs, f, o => by show cs = [β' r]; rw [hβ r f]; exact o
  | .ad r e i p, cs, f, o => by show ∃ b o, baseA (β' r) = some (b, o) ∧ _; rw [hβ r f]; exact o
  | .fad d e xs i p, cs, f, ⟨q1, q2, b, o, arr, ty, fz, z, hb, hl, hr, hc⟩ => by
      obtain ⟨z1, z2⟩ := hz d f b z (by rw [hb]; rfl)
      exact ⟨q1, q2, b, o, arr, ty, fz, z2, z1.trans hb, hl, fun j x hx => (hr j x hx).mono (hz d f) (fun _ m => by cases m), hc⟩
  | .nilA, cs, _, o => o
  | .consA a b, cs, f, ⟨c1, c2, e, o1, o2⟩ => ⟨c1, c2, e, SVc.mono hz hβ f.1 o1, SVc.mono hz hβ f.2 o2⟩
  | .nilT, _, _, o => o.elim
  | .consT _ _, _, _, o => o.elim
  | .nilI, cs, _, o => o
  | .nilP, cs, _, o => o
  | .nilM, cs, _, o => o
  | .arp r _ _, cs, f, ⟨b, o1, o2⟩ => ⟨b, (hβ r f).trans o1, o2⟩
  | .vw r _ _ _, cs, f, ⟨b, o, len, c, o1, o2⟩ => ⟨b, o, len, c, (hβ r f).trans o1, o2⟩
  | .ifs _ _ _, cs, f, ⟨cs', e, o⟩ => ⟨cs', e, SVc.mono hz hβ f o⟩
  | .gl _, cs, _, o => o
  | .fn _, cs, _, o => o
theorem Slot1.mono (hz : ∀ d, D d → ∀ b, Zd d b → (h b).isSome → h' b = h b ∧ Zd' d b) (hβ : ∀ q, R q → β' q = β q) {v : SV} {x : Value} (f : Fit D R v) (o : Slot1 h Zd β v x) : Slot1 h' Zd' β' v x :=
  o.imp id fun ⟨cs, o1, o2⟩ => ⟨cs, SVc.mono hz hβ f o1, o2⟩
theorem TupR.mono (hz : ∀ d, D d → ∀ b, Zd d b → (h b).isSome → h' b = h b ∧ Zd' d b) (hβ : ∀ q, R q → β' q = β q) : ∀ {v : SV} {l : List Value}, Fit D R v → TupR h Zd β v l → TupR h' Zd' β' v l
  | .nilT, l, _, o => o
  | .consT a b, l, f, ⟨x, l', e, o1, o2⟩ => ⟨x, l', e, Slot1.mono hz hβ f.1 o1, TupR.mono hz hβ f.2 o2⟩
  | .hole n, l, _, o => o.elim | .pv _ _ _, l, _, o => o.elim | .nils, l, _, o => o.elim | .ref _, l, _, o => o.elim | .ad _ _ _ _, l, _, o => o.elim | .fad _ _ _ _ _, l, _, o => o.elim | .nilA, l, _, o => o.elim | .consA _ _, l, _, o => o.elim | .nilI, l, _, o => o.elim | .nilP, l, _, o => o.elim | .nilM, l, _, o => o.elim | .arp _ _ _, l, _, o => o.elim | .vw _ _ _ _, l, _, o => o.elim | .ifs _ _ _, l, _, o => o.elim | .gl _, l, _, o => o.elim | .fn _, l, _, o => o.elim
theorem SlotR.mono (hz : ∀ d, D d → ∀ b, Zd d b → (h b).isSome → h' b = h b ∧ Zd' d b) (hβ : ∀ q, R q → β' q = β q) {v : SV} {x : Value} (f : Fit D R v) (o : SlotR h Zd β v x) : SlotR h' Zd' β' v x :=
  o.imp (fun ⟨e, l, e', o⟩ => ⟨e, l, e', TupR.mono hz hβ f o⟩) fun ⟨e, o⟩ => ⟨e, Slot1.mono hz hβ f o⟩
theorem AnchR.mono (hz : ∀ d, D d → ∀ b, Zd d b → (h b).isSome → h' b = h b ∧ Zd' d b) (hβ : ∀ q, R q → β' q = β q) : ∀ {l : List SV} {m : List Value}, (∀ v ∈ l, Fit D R v) → AnchR h Zd β l m → AnchR h' Zd' β' l m
  | [], [], _, _ => trivial
  | v :: l, x :: m, f, o => ⟨SlotR.mono hz hβ (f v (by simp)) o.1, AnchR.mono hz hβ (fun u hu => f u (by simp [hu])) o.2⟩
  | [], _ :: _, _, o => o
  | _ :: _, [], _, o => o

theorem mem_false {n : Nat} : ∀ {l : List Nat}, mem n l = false → n ∉ l
  | [], _ => by simp
  | m :: l, h => by
    unfold mem at h
    split at h
    · cases h
    · rename_i hm
      simp only [List.mem_cons, not_or]
      exact ⟨fun e => hm e.symm, mem_false h⟩
theorem SVc.kill (r : Nat) : ∀ {v : SV} {cs : List Value}, SVc h Zd β v cs → SVc h Zd β (kill r v) cs
  | .hole n, cs, o => o
  | .pv d t x, cs, o => by
      unfold Eng.kill; split
      · exact SVc.len (v := .pv d t x) o
      · exact o
  | .nils, cs, o => o
  | .ref q, cs, o => by
      unfold Eng.kill; split
      · exact SVc.len (by assumption)
      · exact o
  | .ad q e i p, cs, o => by
      unfold Eng.kill; split
      · exact SVc.len (by assumption)
      · exact o
  | .fad d e xs i p, cs, o => by
      unfold Eng.kill; split
      · exact SVc.len (by assumption)
      · exact o
  | .nilA, cs, o => o
  | .consA a b, cs, ⟨c1, c2, e, o1, o2⟩ => ⟨c1, c2, e, SVc.kill r o1, SVc.kill r o2⟩
  | .nilT, _, o => o.elim
  | .consT _ _, _, o => o.elim
  | .nilI, _, o => o | .nilP, _, o => o | .nilM, _, o => o | .gl _, _, o => o | .fn _, _, o => o
  | .arp q e n, cs, o => by
      unfold Eng.kill; split
      · exact SVc.len (by assumption)
      · exact o
  | .vw q e l m, cs, o => by
      unfold Eng.kill; split
      · exact SVc.len (by assumption)
      · exact o
  | .ifs _ _ _, cs, ⟨cs', e, o⟩ => ⟨cs', e, SVc.kill r o⟩
theorem SVc.killD (r : Nat) : ∀ {v : SV} {cs : List Value}, SVc h Zd β v cs → SVc h Zd β (killD r v) cs
  | .hole n, cs, o => o
  | .pv d t x, cs, o => by
      unfold Eng.killD; split
      · exact SVc.len (v := .pv d t x) o
      · exact o
  | .nils, cs, o => o
  | .ref q, cs, o => o
  | .ad q e i p, cs, o => o
  | .fad d e xs i p, cs, o => by
      unfold Eng.killD; split
      · exact SVc.len (by assumption)
      · exact o
  | .nilA, cs, o => o
  | .consA a b, cs, ⟨c1, c2, e, o1, o2⟩ => ⟨c1, c2, e, SVc.killD r o1, SVc.killD r o2⟩
  | .nilT, _, o => o.elim
  | .consT _ _, _, o => o.elim
  | .nilI, _, o => o | .nilP, _, o => o | .nilM, _, o => o | .gl _, _, o => o | .fn _, _, o => o
  | .arp _ _ _, _, o => o | .vw _ _ _ _, _, o => o
  | .ifs _ _ _, cs, ⟨cs', e, o⟩ => ⟨cs', e, SVc.killD r o⟩
/-- What a change of states (kill, killD) must do. -/
structure Soft (f : SV → SV) : Prop where
  c : ∀ {h : Hp} {Zd : List Nat → Nat → Prop} {β : Nat → Value} {v : SV} {cs : List Value}, SVc h Zd β v cs → SVc h Zd β (f v) cs
  agg : ∀ v, (∃ n, f v = .hole n) ∨ (f v).isAgg = v.isAgg
  hole : ∀ n, f (.hole n) = .hole n
  nilT : f .nilT = .nilT
  consT : ∀ a b, f (.consT a b) = .consT (f a) (f b)
  un : ∀ v, (f v).tup = v.tup
theorem soft_kill (r : Nat) : Soft (Eng.kill r) where
  c o := SVc.kill r o
  agg v := by cases v <;> simp only [Eng.kill] <;> (try split) <;> simp [SV.isAgg]
  hole n := rfl
  nilT := rfl
  consT a b := rfl
  un v := by cases v <;> simp only [Eng.kill] <;> (try split) <;> rfl
theorem soft_killD (r : Nat) : Soft (Eng.killD r) where
  c o := SVc.killD r o
  agg v := by cases v <;> simp only [Eng.killD] <;> (try split) <;> simp [SV.isAgg]
  hole n := rfl
  nilT := rfl
  consT a b := rfl
  un v := by cases v <;> simp only [Eng.killD] <;> (try split) <;> rfl
theorem Slot1.soft {f : SV → SV} (s : Soft f) {v : SV} {x : Value} (o : Slot1 h Zd β v x) : Slot1 h Zd β (f v) x := by
  rcases o with ⟨n, rfl⟩ | ⟨cs, o1, o2⟩
  · exact .inl ⟨n, s.hole n⟩
  · rcases s.agg v with ha | ha
    · exact .inl ha
    · exact .inr ⟨cs, s.c o1, by rw [ha]; exact o2⟩
theorem TupR.soft {f : SV → SV} (s : Soft f) : ∀ {v : SV} {l : List Value}, TupR h Zd β v l → TupR h Zd β (f v) l
  | .nilT, l, o => by rw [s.nilT]; exact o
  | .consT a b, l, ⟨x, l', e, o1, o2⟩ => by rw [s.consT]; exact ⟨x, l', e, Slot1.soft s o1, TupR.soft s o2⟩
  | .hole n, l, o => o.elim | .pv _ _ _, l, o => o.elim | .nils, l, o => o.elim | .ref _, l, o => o.elim | .ad _ _ _ _, l, o => o.elim | .fad _ _ _ _ _, l, o => o.elim | .nilA, l, o => o.elim | .consA _ _, l, o => o.elim | .nilI, l, o => o.elim | .nilP, l, o => o.elim | .nilM, l, o => o.elim | .arp _ _ _, l, o => o.elim | .vw _ _ _ _, l, o => o.elim | .ifs _ _ _, l, o => o.elim | .gl _, l, o => o.elim | .fn _, l, o => o.elim
theorem SlotR.soft {f : SV → SV} (s : Soft f) {v : SV} {x : Value} (o : SlotR h Zd β v x) : SlotR h Zd β (f v) x := by
  unfold SlotR
  rw [s.un]
  exact o.imp (fun ⟨e, l, e', o⟩ => ⟨e, l, e', TupR.soft s o⟩) fun ⟨e, o⟩ => ⟨e, Slot1.soft s o⟩
theorem AnchR.soft {f : SV → SV} (s : Soft f) : ∀ {l : List SV} {m : List Value}, AnchR h Zd β l m → AnchR h Zd β (mapA f l) m
  | [], [], _ => trivial
  | v :: l, x :: m, o => ⟨SlotR.soft s o.1, AnchR.soft s o.2⟩
  | [], _ :: _, o => o
  | _ :: _, [], o => o
theorem mem_mapS {f : SV → SV} {n : Nat} {v : SV} : ∀ {l : List (Nat × SV)}, (n, v) ∈ mapS f l → ∃ u, (n, u) ∈ l ∧ v = f u
  | [], hm => by cases hm
  | (m, u) :: l, hm => by
    simp only [mapS, List.mem_cons, Prod.mk.injEq] at hm
    rcases hm with ⟨rfl, rfl⟩ | hm
    · exact ⟨u, by simp, rfl⟩
    · obtain ⟨u', h1, h2⟩ := mem_mapS hm; exact ⟨u', by simp [h1], h2⟩
theorem mem_mapC {f : SV → SV} {n : Nat} {c : Ch} : ∀ {l : List (Nat × Ch)}, (n, c) ∈ mapC f l → ((n, c) ∈ l ∧ ∀ v, c ≠ .box v) ∨ ∃ u, (n, .box u) ∈ l ∧ c = .box (f u)
  | [], hm => by cases hm
  | (m, .box u) :: l, hm => by
    simp only [mapC, List.mem_cons, Prod.mk.injEq] at hm
    rcases hm with ⟨rfl, rfl⟩ | hm
    · exact .inr ⟨u, by simp, rfl⟩
    · rcases mem_mapC hm with ⟨h1, h2⟩ | ⟨u', h1, h2⟩
      · exact .inl ⟨by simp [h1], h2⟩
      · exact .inr ⟨u', by simp [h1], h2⟩
  | (m, .row a b d) :: l, hm => by
    simp only [mapC, List.mem_cons, Prod.mk.injEq] at hm
    rcases hm with ⟨rfl, rfl⟩ | hm
    · exact .inl ⟨by simp, fun v h => by cases h⟩
    · rcases mem_mapC hm with ⟨h1, h2⟩ | ⟨u', h1, h2⟩
      · exact .inl ⟨by simp [h1], h2⟩
      · exact .inr ⟨u', by simp [h1], h2⟩
  | (m, .iter a b) :: l, hm => by
    simp only [mapC, List.mem_cons, Prod.mk.injEq] at hm
    rcases hm with ⟨rfl, rfl⟩ | hm
    · exact .inl ⟨by simp, fun v h => by cases h⟩
    · rcases mem_mapC hm with ⟨h1, h2⟩ | ⟨u', h1, h2⟩
      · exact .inl ⟨by simp [h1], h2⟩
      · exact .inr ⟨u', by simp [h1], h2⟩
  | (m, .mp a b d) :: l, hm => by
    simp only [mapC, List.mem_cons, Prod.mk.injEq] at hm
    rcases hm with ⟨rfl, rfl⟩ | hm
    · exact .inl ⟨by simp, fun v h => by cases h⟩
    · rcases mem_mapC hm with ⟨h1, h2⟩ | ⟨u', h1, h2⟩
      · exact .inl ⟨by simp [h1], h2⟩
      · exact .inr ⟨u', by simp [h1], h2⟩
  | (m, .glob a) :: l, hm => by
    simp only [mapC, List.mem_cons, Prod.mk.injEq] at hm
    rcases hm with ⟨rfl, rfl⟩ | hm
    · exact .inl ⟨by simp, fun v h => by cases h⟩
    · rcases mem_mapC hm with ⟨h1, h2⟩ | ⟨u', h1, h2⟩
      · exact .inl ⟨by simp [h1], h2⟩
      · exact .inr ⟨u', by simp [h1], h2⟩
theorem mapC_ids (f : SV → SV) : ∀ l : List (Nat × Ch), (mapC f l).map (·.1) = l.map (·.1)
  | [] => rfl
  | (m, .box u) :: l => by simp [mapC, mapC_ids f l]
  | (m, .row a b d) :: l => by simp [mapC, mapC_ids f l]
  | (m, .iter a b) :: l => by simp [mapC, mapC_ids f l]
  | (m, .mp a b d) :: l => by simp [mapC, mapC_ids f l]
  | (m, .glob a) :: l => by simp [mapC, mapC_ids f l]
theorem allO_ids {F : Nat → List Nat} {l m : List (Nat × Ch)} (e : l.map (·.1) = m.map (·.1)) : allO F l = allO F m := by
  unfold allO
  have : ∀ l : List (Nat × Ch), l.map (fun p => F p.1) = (l.map (·.1)).map F := fun l => by simp
  rw [this l, this m, e]
theorem ZdOf_ids {Bb : Nat → Prop} {F : Nat → List Nat} {l m : List (Nat × Ch)} (e : l.map (·.1) = m.map (·.1)) : ZdOf Bb F l = ZdOf Bb F m := by
  funext d b; unfold ZdOf; rw [allO_ids e, e]
theorem Sim.soft {f : SV → SV} (s : Soft f) {Bb : Nat → Prop} {w0 : World} {O0 : List Nat} {av : List Value} {Γ : Ctx} {a : Act} {w : World} {F : Nat → List Nat} (S : Sim Bb w0 O0 av Γ a w β F) : Sim Bb w0 O0 av (Γ.map f) a w β F := by
  have e : (mapC f Γ.roots).map (·.1) = Γ.roots.map (·.1) := mapC_ids f _
  constructor
  · exact S.size
  · exact S.defers
  · intro n v hm
    obtain ⟨u, h1, rfl⟩ := mem_mapS hm
    obtain ⟨x, h2, h3⟩ := S.slots n u h1
    refine ⟨x, h2, ?_⟩
    show SlotR (hp w) (ZdOf Bb F (mapC f Γ.roots)) β _ x
    rw [ZdOf_ids e]; exact SlotR.soft s h3
  · intro r c hm
    show RootR (hp w) (ZdOf Bb F (mapC f Γ.roots)) β _ r c
    rw [ZdOf_ids e]
    rcases mem_mapC hm with ⟨h1, _⟩ | ⟨u, h1, rfl⟩
    · exact S.roots r c h1
    · obtain ⟨b, cs, ty, h2, h3, h4, h5⟩ := S.roots r _ h1
      exact ⟨b, cs, ty, h2, h3, h4, s.c h5⟩
  · show AnchR (hp w) (ZdOf Bb F (mapC f Γ.roots)) β (mapA f Γ.anch) av
    rw [ZdOf_ids e]; exact AnchR.soft s S.anch
  · show ((mapC f Γ.roots).map (·.1)).Nodup
    rw [e]; exact S.ids
  · show (allO F (mapC f Γ.roots)).Nodup
    rw [allO_ids e]; exact S.nodup
  · show ∀ b ∈ allO F (mapC f Γ.roots), _
    rw [allO_ids e]; exact S.own
  · exact S.frm
  · exact S.bone
  · exact S.base
theorem fit_kill (r : Nat) : ∀ v : SV, Fit (fun d => mem r d = false) (fun q => q ≠ r) (Eng.kill r v)
  | .hole n => trivial
  | .pv d t x => by
      unfold Eng.kill; split
      · trivial
      · rename_i hm; exact Bool.eq_false_iff.2 hm
  | .nils => trivial
  | .ref q => by
      unfold Eng.kill; split
      · trivial
      · rename_i hm; exact hm
  | .ad q e i p => by
      unfold Eng.kill; split
      · trivial
      · rename_i hm; exact hm
  | .fad d e xs i p => by
      unfold Eng.kill; split
      · trivial
      · rename_i hm; exact Bool.eq_false_iff.2 hm
  | .nilA => trivial
  | .consA a b => ⟨fit_kill r a, fit_kill r b⟩
  | .nilT => trivial
  | .consT a b => ⟨fit_kill r a, fit_kill r b⟩
  | .nilI => trivial | .nilP => trivial | .nilM => trivial | .gl _ => trivial | .fn _ => trivial
  | .arp q e n => by
      unfold Eng.kill; split
      · trivial
      · rename_i hm; exact hm
  | .vw q e n m => by
      unfold Eng.kill; split
      · trivial
      · rename_i hm; exact hm
  | .ifs _ _ v => fit_kill r v
theorem fit_killD (r : Nat) : ∀ v : SV, Fit (fun d => mem r d = false) (fun _ => True) (Eng.killD r v)
  | .hole n => trivial
  | .pv d t x => by
      unfold Eng.killD; split
      · trivial
      · rename_i hm; exact Bool.eq_false_iff.2 hm
  | .nils => trivial
  | .ref q => trivial
  | .ad q e i p => trivial
  | .fad d e xs i p => by
      unfold Eng.killD; split
      · trivial
      · rename_i hm; exact Bool.eq_false_iff.2 hm
  | .nilA => trivial
  | .consA a b => ⟨fit_killD r a, fit_killD r b⟩
  | .nilT => trivial
  | .consT a b => ⟨fit_killD r a, fit_killD r b⟩
  | .nilI => trivial | .nilP => trivial | .nilM => trivial | .gl _ => trivial | .fn _ => trivial | .arp _ _ _ => trivial | .vw _ _ _ _ => trivial
  | .ifs _ _ v => fit_killD r v
theorem fit_all : ∀ v : SV, Fit (fun _ => True) (fun _ => True) v
  | .hole n => trivial | .pv _ _ _ => trivial | .nils => trivial | .ref _ => trivial | .ad _ _ _ _ => trivial | .fad _ _ _ _ _ => trivial | .nilA => trivial | .nilT => trivial
  | .consA a b => ⟨fit_all a, fit_all b⟩
  | .consT a b => ⟨fit_all a, fit_all b⟩
  | .nilI => trivial | .nilP => trivial | .nilM => trivial | .gl _ => trivial | .fn _ => trivial | .arp _ _ _ => trivial | .vw _ _ _ _ => trivial
  | .ifs _ _ v => fit_all v
end
/-- All states in Γ fit. -/
structure FitG (D : List Nat → Prop) (R : Nat → Prop) (Γ : Ctx) : Prop where
  slots : ∀ n v, (n, v) ∈ Γ.slots → Fit D R v
  boxes : ∀ r v, (r, .box v) ∈ Γ.roots → Fit D R v
  anch : ∀ v ∈ Γ.anch, Fit D R v
theorem mem_mapA {f : SV → SV} {v : SV} : ∀ {l : List SV}, v ∈ mapA f l → ∃ u ∈ l, v = f u
  | [], hm => by cases hm
  | u :: l, hm => by
    simp only [mapA, List.mem_cons] at hm
    rcases hm with rfl | hm
    · exact ⟨u, by simp, rfl⟩
    · obtain ⟨u', h1, h2⟩ := mem_mapA hm; exact ⟨u', by simp [h1], h2⟩
theorem FitG.of {f : SV → SV} {D : List Nat → Prop} {R : Nat → Prop} (hf : ∀ v, Fit D R (f v)) (Γ : Ctx) : FitG D R (Γ.map f) where
  slots n v hm := by obtain ⟨u, _, rfl⟩ := mem_mapS hm; exact hf u
  boxes r v hm := by
    rcases mem_mapC hm with ⟨_, e⟩ | ⟨u, _, e⟩
    · exact absurd rfl (e v)
    · injection e with e; rw [e]; exact hf u
  anch v hm := by obtain ⟨u, _, rfl⟩ := mem_mapA hm; exact hf u
end Go.Proofs.YtjpeblicfhfniaaDoor.Eng
