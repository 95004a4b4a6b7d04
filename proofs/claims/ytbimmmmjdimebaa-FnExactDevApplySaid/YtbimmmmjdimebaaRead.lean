/- From the form's reading of an argument to the print tool's kinds: ints, strings, slices, structs, at any depth. No Go in it, no condition. -/
import Derived.Deep.Slices
import Derived.Deep.Fields
import Derived.ChangeSame
import Derived.ChangeArms
import Derived.Test.YtbimmmmjdimebaaWWords
namespace Go.Proofs.Ytbimmmmjdimebaa.Read
open Go.ChangeShapes Go.WideShapes Go.Deep Go.RowKit Go.Proofs.YtbimmmmjdimebaaW.PrintWords
set_option linter.unusedVariables false

section
variable {H : Type} {enc : TypeId × Value → H} {P : Program} {w : World} {base : Nat} {spare : Nat → Bool} {held : Bool}
/-- Whatever reads as a value of type t is a value of the kind d with G. -/
def Rd (enc : TypeId × Value → H) (P : Program) (w : World) (base : Nat) (spare : Nat → Bool) (held : Bool) {α : Type} (t : TypeId) (d : Kd α) (G : α → Prop) : Prop :=
  ∀ (fuel : Nat) (cs : List Value) (x : DataW H × List MemPlace), DataW.trod enc P w base spare held fuel t cs = some x → ∃ a : α, d.K w a cs ∧ G a
def GI (k : IntKind) (n : Int) : Prop := (Lit.int k n).wf = true
def GS (s : ByteArray) : Prop := s.size ≤ maxLen
def GB (_ : Bool) : Prop := True
def GL {α : Type} (G : α → Prop) (xs : List α) : Prop := xs.length ≤ maxLen ∧ ∀ x ∈ xs, G x
def GP {α β : Type} (G : α → Prop) (G' : β → Prop) (x : α × β) : Prop := G x.1 ∧ G' x.2
theorem Rd.int {t : TypeId} {k : IntKind} (ht : P.underlying t = some (.int k)) : Rd enc P w base spare held t (Kd.int k) (GI k) := by
  intro fuel cs x h
  obtain ⟨n, rfl, _, hw⟩ := DataW.trod_int ht h
  exact ⟨n, rfl, hw⟩
theorem Rd.bool {t : TypeId} (ht : P.underlying t = some .bool) : Rd enc P w base spare held t Kd.bool GB := by
  intro fuel cs x h
  obtain ⟨b, rfl, _⟩ := DataW.trod_bool ht h
  exact ⟨b, rfl, trivial⟩
theorem Rd.string {t : TypeId} (ht : P.underlying t = some .string) : Rd enc P w base spare held t Kd.string GS := by
  intro fuel cs x h
  obtain ⟨s, rfl, _, hs⟩ := DataW.trod_string ht h
  exact ⟨s, rfl, hs⟩
/-- A slice: its parts. -/
theorem Rd.row {α : Type} {d : Kd α} {G : α → Prop} {t e : TypeId} (ht : P.underlying t = some (.slice e)) (he : P.cellsOf e = d.sz) (hd : Rd enc P w base spare held e d G) {fuel : Nat} {cs : List Value} {x : DataW H × List MemPlace}
    (h : DataW.trod enc P w base spare held fuel t cs = some x) : ∃ (A : Option Addr) (c : Nat) (xs : List α), cs = [.slice A xs.length c] ∧ xs.length ≤ c ∧ d.C w A xs.length xs ∧ GL G xs := by
  rcases open_slice ht h with ⟨rfl, _⟩ | ⟨a, len, cap, m, n, D, Pl, rfl, hb, hl, hm, hmm, hx, hi⟩
  · exact ⟨none, 0, [], rfl, Nat.le_refl _, ⟨rfl, by simp, fun h0 => by simp at h0⟩, by simp [GL]⟩
  · have hml : len ≤ m := by rw [hmm]; split <;> omega
    have hel : ∀ i : Nat, i < len → ∃ p : α, (∃ c, c.length = d.sz ∧ d.K w p c ∧ ∀ j u, c[j]? = some u → w.cell? (a.add (i * d.sz + j)) = some u) ∧ G p := by
      intro i hil
      obtain ⟨cs', hc, ht'⟩ := hi i (by omega)
      obtain ⟨p, hp, hg⟩ := hd n cs' _ ht'
      rw [he] at hc
      obtain ⟨_, hcl, hat⟩ := World.cells?_some hc
      refine ⟨p, ⟨cs', hcl, hp, fun j u hu => ?_⟩, hg⟩
      have hj : j < d.sz := by have := (List.getElem?_eq_some_iff.1 hu).1; omega
      rw [← Go.Deep.add_add, hat j hj, hu]
    have hxl : (List.ofFn (fun i : Fin len => (hel i.1 i.2).choose)).length = len := List.length_ofFn
    have hget : ∀ (i : Nat) (p : α), (List.ofFn (fun i : Fin len => (hel i.1 i.2).choose))[i]? = some p → (∃ c, c.length = d.sz ∧ d.K w p c ∧ ∀ j u, c[j]? = some u → w.cell? (a.add (i * d.sz + j)) = some u) ∧ G p := by
      intro i p hp
      obtain ⟨hil, rfl⟩ := List.getElem?_eq_some_iff.1 hp
      rw [List.getElem_ofFn]
      exact (hel i (by rw [hxl] at hil; exact hil)).choose_spec
    refine ⟨some a, cap, List.ofFn (fun i : Fin len => (hel i.1 i.2).choose), by rw [hxl], by rw [hxl]; exact hl, ⟨rfl, by rw [hxl]; unfold maxLen at hm; omega, fun _ => ⟨a, rfl, fun j p hp => (hget j p hp).1⟩⟩, by rw [hxl]; omega, fun x hx => ?_⟩
    obtain ⟨i, hi⟩ := List.mem_iff_getElem?.1 hx
    exact (hget i x hi).2
theorem Rd.slice {α : Type} {d : Kd α} {G : α → Prop} {t e : TypeId} (ht : P.underlying t = some (.slice e)) (he : P.cellsOf e = d.sz) (hd : Rd enc P w base spare held e d G) : Rd enc P w base spare held t (Kd.slice e d) (GL G) := by
  intro fuel cs x h
  obtain ⟨A, c, xs, h1, h2, h3, h4⟩ := Rd.row ht he hd h
  exact ⟨xs, ⟨A, c, h1, h2, h3⟩, h4⟩
theorem Rd.iso {α β : Type} {d : Kd α} {G : α → Prop} {t : TypeId} (f : β → α) (g : α → β) (hfg : ∀ x, f (g x) = x) (hd : Rd enc P w base spare held t d G) : Rd enc P w base spare held t (Kd.iso d f) (fun y => G (f y)) := by
  intro fuel cs x h
  obtain ⟨a, ha, hg⟩ := hd fuel cs x h
  exact ⟨g a, by show d.K w (f (g a)) cs; rw [hfg]; exact ha, by show G (f (g a)); rw [hfg]; exact hg⟩
/-- The fields of a struct from one on, as nested pairs: off is where the first begins. -/
def RdF (enc : TypeId × Value → H) (P : Program) (w : World) (base : Nat) (spare : Nat → Bool) (held : Bool) {α : Type} (fs : List Field) (off : Nat) (d : Kd α) (G : α → Prop) : Prop :=
  ∀ (n : Nat) (cs : List Value), cs.length = d.sz → (∀ f ∈ fs, ∃ x, DataW.trod enc P w base spare held n f.type ((cs.drop (f.offset - off)).take (P.cellsOf f.type)) = some x) → ∃ a : α, d.K w a cs ∧ G a
theorem RdF.one {α : Type} {d : Kd α} {G : α → Prop} {f : Field} {off : Nat} (ho : f.offset = off) (hc : P.cellsOf f.type = d.sz) (hd : Rd enc P w base spare held f.type d G) : RdF enc P w base spare held [f] off d G := by
  intro n cs hl h
  obtain ⟨x, hx⟩ := h f (List.mem_singleton.2 rfl)
  rw [ho, Nat.sub_self, List.drop_zero, hc, List.take_of_length_le (by omega)] at hx
  exact hd n cs x hx
theorem RdF.cons {α β : Type} {d : Kd α} {d' : Kd β} {G : α → Prop} {G' : β → Prop} {f : Field} {fs : List Field} {off : Nat} (ho : f.offset = off) (hc : P.cellsOf f.type = d.sz) (hfs : fs.all (fun g => decide (off + d.sz ≤ g.offset)) = true)
    (hd : Rd enc P w base spare held f.type d G) (hr : RdF enc P w base spare held fs (off + d.sz) d' G') : RdF enc P w base spare held (f :: fs) off (Kd.pair d d') (GP G G') := by
  intro n cs hl h
  have hl' : cs.length = d.sz + d'.sz := hl
  obtain ⟨x, hx⟩ := h f List.mem_cons_self
  rw [ho, Nat.sub_self, List.drop_zero, hc] at hx
  obtain ⟨a, ha, hga⟩ := hd n _ x hx
  obtain ⟨b, hb, hgb⟩ := hr n (cs.drop d.sz) (by rw [List.length_drop]; omega) (fun g hg => by
    obtain ⟨y, hy⟩ := h g (List.mem_cons_of_mem _ hg)
    have hle := of_decide_eq_true (List.all_eq_true.1 hfs g hg)
    refine ⟨y, ?_⟩
    rw [List.drop_drop, show d.sz + (g.offset - (off + d.sz)) = g.offset - off by omega]
    exact hy)
  exact ⟨(a, b), ⟨cs.take d.sz, cs.drop d.sz, (List.take_append_drop _ _).symm, ha, hb⟩, hga, hgb⟩
theorem Rd.struct {α : Type} {d : Kd α} {G : α → Prop} {t : TypeId} {fs : Array Field} (ht : P.underlying t = some (.struct fs)) (hc : P.cellsOf t = d.sz) (hr : RdF enc P w base spare held fs.toList 0 d G) : Rd enc P w base spare held t d G := by
  intro fuel cs x h
  obtain ⟨xs, n, _, _, hlen, hxl, hf⟩ := DataW.trod_struct ht h
  refine hr n cs (hlen.trans hc) (fun f hfm => ?_)
  obtain ⟨i, hi⟩ := List.mem_iff_getElem?.1 hfm
  have hi' : fs[i]? = some f := by rw [← hi]; simp
  have := hf i f hi'
  rw [Nat.sub_zero]
  have hil : i < xs.length := by rw [hxl]; exact (Array.getElem?_eq_some_iff.1 hi').1
  exact ⟨xs[i], by rw [this]; exact List.getElem?_eq_getElem hil⟩
end
end Go.Proofs.Ytbimmmmjdimebaa.Read
