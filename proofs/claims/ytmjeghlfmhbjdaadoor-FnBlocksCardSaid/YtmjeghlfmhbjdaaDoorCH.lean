/- The engine: a long function in pieces (chopping). No condition. -/
import Derived.Test.YtmjeghlfmhbjdaaDoorEn4
namespace Go.Proofs.YtmjeghlfmhbjdaaDoor.Eng
open Go.RowKit
set_option linter.unusedVariables false
/-- The code behind k pieces. -/
def rst : Nat → Code → Code
 | 0, c => c
 | k + 1, .seq _ b => rst k b
 | _ + 1, _ => .skip
section
variable (M : Mth) (T : Tab) (C : FuncId → Option Con) (lv : Nat → List Nat) (hd : Nat → Nat)
/-- The first k pieces of a row of pieces; behind them I. -/
def vcS : Nat → Code → (Ctx → Prop) → (Ex → Ctx → Prop) → Ctx → Prop
 | 0, _, I, _, Γ => I Γ
 | k + 1, .seq a b, I, Q, Γ => vc M T C lv hd a (fun e Γ => match e with | .normal => vcS k b I Q Γ | .exit n => Q (.exit n) Γ | .ret => Q .ret Γ) Γ
 | _ + 1, _, _, _, _ => False
/-- A code walked in pieces. -/
inductive VC : Code → (Ex → Ctx → Prop) → Ctx → Prop where
 | one {c Q Γ} : vc M T C lv hd c Q Γ → VC c Q Γ
 | chop {c Q Γ} (k : Nat) (I : Ctx → Prop) : vcS M T C lv hd k c I Q Γ → (∀ Γ', I Γ' → CtxWF Γ' → VC (rst k c) Q Γ') → VC c Q Γ
end
/-- What a function's exit is to give. -/
def exQ (T : Tab) (c : Con) (rvs : List ResultVar) (x : DP c.ps) (e : Ex) (Γ : Ctx) : Prop := match e with | .normal => vcRet T c rvs x Γ | .ret => vcRet T c rvs x Γ | .exit _ => False
section
variable {P : Program} {T : Tab} {C : FuncId → Option Con} {lv : Nat → List Nat} {hd : Nat → Nat} {Bb : Nat → Prop} {w0 : World} {O0 : List Nat} {av : List Value} {Γ Γ' : Ctx} {a : Act} {w w' : World} {β : Nat → Value} {F : Nat → List Nat}
theorem sound_S (hm : P.follows .mixedOrders = true) (hT : TabOk P T) (hC : ConsOk P C) {Q : Ex → Ctx → Prop} {I : Ctx → Prop} : ∀ (k : Nat) {c : Code} {Γ : Ctx} {a : Act} {w : World} {β : Nat → Value} {F : Nat → List Nat}, Sim Bb w0 O0 av Γ a w β F → vcS real T C lv hd k c I Q Γ →
  (∀ Γ' a' w' β' F', Sim Bb w0 O0 av Γ' a' w' β' F' → I Γ' → (rst k c).wp P (ExQ Bb w0 O0 av Q) a' w') → c.wp P (ExQ Bb w0 O0 av Q) a w
 | 0, c, Γ, a, w, β, F, S, h, hr => hr Γ a w β F S h
 | k + 1, .seq x y, Γ, a, w, β, F, S, h, hr => by
  refine wp_seq (wp_mono (sound_code hm hT hC S h) ?_)
  intro e a' w' he
  cases e with
  | normal =>
   obtain ⟨Γ', β', F', h1, S'⟩ := he
   exact sound_S hm hT hC k S' h1 hr
  | exit n => exact he
  | ret => exact he
  | _ => exact he.elim
theorem sound_VC (hm : P.follows .mixedOrders = true) (hT : TabOk P T) (hC : ConsOk P C) {c : Code} {Q : Ex → Ctx → Prop} {Γ : Ctx} (h : VC real T C lv hd c Q Γ) : ∀ {a : Act} {w : World} {β : Nat → Value} {F : Nat → List Nat}, Sim Bb w0 O0 av Γ a w β F → c.wp P (ExQ Bb w0 O0 av Q) a w := by
 induction h with
 | one h => intro a w β F S; exact sound_code hm hT hC S h
 | chop k I h _ ih => intro a w β F S; exact sound_S hm hT hC k S h (fun Γ' a' w' β' F' S' hI => ih Γ' hI S'.wf S')
/-- The contract of a function that is walked in pieces. -/
theorem FnOK.of_VC (hm : P.follows .mixedOrders = true) (hT : TabOk P T) (hC : ConsOk P C) {f : FuncId} {fn : Func} {code : Code} (hf : P.funcs[f]? = some fn) (hb : fn.body = some code) {c : Con} (hnt : c.ps.length ≤ fn.ntmps) (lv : Nat → List Nat) (hd : Nat → Nat)
  (h0 : ∀ x, c.pre x → psRoots c.ps = true ∧ wantP c.ps x < 1000000)
  (h : ∀ x, c.pre x → WFp c.ps x → VC real T C lv hd code (exQ T c fn.results.toList x) (entryG fn.ntmps c.ps x c.gl)) : FnOK P f c := by
 intro w Z Bs vals x hA hB hZ hG hpre
 obtain ⟨β, F, S⟩ := entry_sim (nt := fn.ntmps) (h0 x hpre).1 (h0 x hpre).2 hG hA hB hZ hnt
 refine calls_of_wp hf hb (wp_mono (sound_VC hm hT hC (h x hpre hA.wf) S) ?_)
 intro e a' w' he
 cases e with
 | normal =>
  obtain ⟨Γ', β', F', h1, S'⟩ := he
  obtain ⟨v, h2, h3⟩ := ret_ok hT S' h1
  exact ⟨S'.defers, v, h2, h3⟩
 | ret =>
  obtain ⟨Γ', β', F', h1, S'⟩ := he
  obtain ⟨v, h2, h3⟩ := ret_ok hT S' h1
  exact ⟨S'.defers, v, h2, h3⟩
 | exit n =>
  obtain ⟨Γ', β', F', h1, S'⟩ := he
  exact h1.elim
 | _ => exact he.elim
end
end Go.Proofs.YtmjeghlfmhbjdaaDoor.Eng
