/- The engine, part 25: contracts that were proved elsewhere; what the walks' own lines need. No condition. -/
import Derived.Test.YtjpeblicfhfniaaDoorEngX
import Derived.IntWalk
import Derived.Laws.Strings
import Derived.WideShapes
namespace Go.Proofs.YtjpeblicfhfniaaDoor.Eng
open Go.RowKit
set_option linter.unusedVariables false
set_option linter.unusedSimpArgs false
section
variable {P : Program}
theorem ArgsR.nils {h : Hp} {Z : Nat → Prop} : ∀ {ps : List (Bool × Nat × Ty)} {Bs : List (List Nat)} {vs : List Value} {x : DP ps}, (∀ p ∈ ps, p.2.1 = 0) → ArgsR h Z ps Bs vs x → Bs.flatten = [] ∧ OutR h Z ps Bs vs x := by
  intro ps
  induction ps with
  | nil => intro Bs vs x hp ⟨e1, e2⟩; subst e1; exact ⟨rfl, rfl, e2⟩
  | cons p ps ih =>
    intro Bs vs x hp ⟨B, Bs', v, vs', cs, e1, e2, o, e3, r⟩
    obtain ⟨io, n, t⟩ := p
    have hn : n = 0 := hp _ (List.mem_cons_self ..)
    subst hn
    have hB := o.b0
    have := ih (fun q hq => hp q (List.mem_cons_of_mem _ hq)) r
    refine ⟨by rw [e1, hB]; simpa using this.1, B, Bs', v, vs', e1, e2, ?_, this.2⟩
    cases io <;> exact hB
theorem FnOK.of_callsG {f : FuncId} {c : Con} (hps : ∀ p ∈ c.ps, p.2.1 = 0)
    (h : ∀ (w : World) (Z : Nat → Prop) (Bs : List (List Nat)) (vals : List Value) (x : DP c.ps), ArgsR (hp w) Z c.ps Bs vals x → GOk (hp w) Z c.gl → c.pre x →
      Calls P f vals.toArray w fun e w' => ∃ rv y Rs, e = .returned rv ∧ c.post x y x ∧ Frm [] w w' ∧ Rs.flatten = [] ∧ RetR (hp w') Z c.rs Rs rv y) : FnOK P f c := by
  intro w Z Bs vals x hA hB hZ hG hpre
  obtain ⟨e0, ho⟩ := ArgsR.nils hps hA
  refine (h w Z Bs vals x hA hG hpre).mono ?_
  rintro e w' ⟨rv, y, Rs, rfl, hpost, hf, hR, hret⟩
  have hout : ∀ {Z' : Nat → Prop}, (∀ b, Z b → Z' b) → OutR (hp w') Z' c.ps Bs vals x := by
    have key : ∀ (ps : List (Bool × Nat × Ty)) (Bs : List (List Nat)) (vs : List Value) (x : DP ps) (Z' : Nat → Prop), (∀ p ∈ ps, p.2.1 = 0) → OutR (hp w) Z ps Bs vs x → OutR (hp w') Z' ps Bs vs x := by
      intro ps
      induction ps with
      | nil => intro Bs vs x Z' _ h; exact h
      | cons p ps ih =>
        intro Bs vs x Z' hp ⟨B, Bs', v, vs', e1, e2, om, r⟩
        obtain ⟨io, n, t⟩ := p
        have hn : n = 0 := hp _ (List.mem_cons_self ..)
        subst hn
        exact ⟨B, Bs', v, vs', e1, e2, by cases io <;> exact om, ih _ _ _ _ (fun q hq => hp q (List.mem_cons_of_mem _ hq)) r⟩
    intro Z' _
    exact key _ _ _ _ _ hps ho
  have hlt : Bs.flatten ++ Rs.flatten = [] := by rw [e0, hR]; rfl
  obtain ⟨vs, r1, r2⟩ := hret
  refine ⟨rv, y, x, Bs, Rs, rfl, hpost, by rw [e0]; exact hf, by rw [hlt]; exact .nil, by rw [hlt]; exact fun b hb => (by cases hb), hout (fun b hb => .inl hb), vs, RetL.weaken (fun b hb => .inl hb) r1, r2⟩
theorem FnOK.of_calls {f : FuncId} {c : Con} (hps : ∀ p ∈ c.ps, p.2.1 = 0)
    (h : ∀ (w : World) (Z : Nat → Prop) (Bs : List (List Nat)) (vals : List Value) (x : DP c.ps), ArgsR (hp w) Z c.ps Bs vals x → c.pre x →
      Calls P f vals.toArray w fun e w' => ∃ rv y Rs, e = .returned rv ∧ c.post x y x ∧ Frm [] w w' ∧ Rs.flatten = [] ∧ RetR (hp w') Z c.rs Rs rv y) : FnOK P f c :=
  FnOK.of_callsG hps fun w Z Bs vals x hA _ hp => h w Z Bs vals x hA hp
theorem frm_below {w w' : World} (h : Below w.heap.size w w') : Frm [] w w' := by
  obtain ⟨h1, h2, h3, h4, h5⟩ := h
  exact ⟨h1, h2, h3, h4, fun k hk _ => h5 k hk⟩
theorem ret_int {h : Hp} {Z : Nat → Prop} {k : IntKind} {y : Int} (hk : InK k y) : RetR h Z [(0, .int k)] [[]] (.int k y) (y, ()) :=
  ⟨[.int k y], ⟨[], [], .int k y, [], [.int k y], rfl, rfl, ⟨rfl, rfl, hk⟩, rfl, rfl, rfl⟩, rfl⟩
end
def splP (c : Bool) (A B : Prop) : Prop := match c with | true => A | false => B
theorem splM {c : Bool} {A B : Prop} (h : c = true → A) (h' : c = false → B) : splP c A B := by cases c <;> simp_all [splP]
theorem drawRd {ops : Array Oper} {n : Nat} (h1 : n = ops.size) (h2 : Region.lexB .any ops = true) : DrawOk ops n := .inl ⟨h1, h2⟩
theorem drawTail {ops : Array Oper} {n : Nat} (h : Region.lexTailB .any ops n = true) : DrawOk ops n := .inr h
/-- `cbv` writes casts in their unfolded form: these two bring them back. -/
def nI (n : Nat) : Int := (n : Int)
theorem ncast (n : Nat) : (NatCast.natCast n : Int) = nI n := rfl
theorem nI_eq (n : Nat) : nI n = (n : Int) := rfl
theorem w64 {x : Int} (h : -9223372036854775808 ≤ x ∧ x ≤ 9223372036854775807) : IntKind.wrap .i64 x = x := IntWalk.i64_in x h
theorem w8 {x : Int} (h : 0 ≤ x ∧ x ≤ 255) : IntKind.wrap .u8 x = x := IntWalk.u8_in x h
theorem sEq_dec (a b : ByteArray) : (a.toList == b.toList) = decide (a = b) := by
  rw [ByteArray.toList_eq, ByteArray.toList_eq, Bool.eq_iff_iff, decide_eq_true_iff, beq_iff_eq]
  exact ⟨fun h => WideShapes.bytes_inj h, fun h => by rw [h]⟩
theorem size_nil {s : ByteArray} : s = ⟨#[]⟩ ↔ s.size = 0 := by
  constructor
  · rintro rfl; rfl
  · intro h; exact ByteArray.ext (Array.eq_empty_of_size_eq_zero h)
theorem maxL_eq : maxL = 140737488355328 := rfl
end Go.Proofs.YtjpeblicfhfniaaDoor.Eng
