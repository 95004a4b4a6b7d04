/- The engine, part 24: what a program has to say of its types and functions. No condition. -/
import Derived.Test.YtjpeblicfhfniaaDoorEngW
import Derived.KernelRfl
namespace Go.Proofs.YtjpeblicfhfniaaDoor.Eng
open Go.RowKit
set_option linter.unusedVariables false
set_option linter.unusedSimpArgs false
variable {P : Program}
theorem InfoOk.mk {τ : Ty} {t : TypeId} {n : Nat} (h : (P.info? t).map (fun i => (i.zero, i.size, i.bytes)) = some (some (valOf τ.agg τ.zc), τ.sz, n)) (h0 : 0 < n) (h1 : n ≤ 1024) : InfoOk P τ t := by
  rw [Option.map_eq_some_iff] at h
  obtain ⟨i, hi, e⟩ := h
  simp only [Prod.mk.injEq] at e
  obtain ⟨e1, e2, e3⟩ := e
  exact ⟨i, hi, e2, e1, by omega, by omega⟩
theorem TyOk.int {k : IntKind} {t : TypeId} (h : P.underlying t = some (.int k)) (i : InfoOk P (.int k) t) : TyOk P (.int k) t := ⟨h, i⟩
theorem TyOk.bool {t : TypeId} (h : P.underlying t = some .bool) (i : InfoOk P .bool t) : TyOk P .bool t := ⟨h, i⟩
theorem TyOk.str {t : TypeId} (h : P.underlying t = some .string) (i : InfoOk P .str t) : TyOk P .str t := ⟨h, i⟩
theorem TyOk.sl {e : Ty} {t te : TypeId} (h : P.underlying t = some (.slice te)) (he : TyOk P e te) (i : InfoOk P (.sl e) t) : TyOk P (.sl e) t := ⟨te, h, he, i⟩
theorem TyOk.any {t : TypeId} {m : _} (h : P.underlying t = some (.interface m)) (i : InfoOk P .any t) : TyOk P .any t := ⟨_, h, i⟩
theorem TyOk.arr {n : Nat} {e : Ty} {t te : TypeId} (h : P.underlying t = some (.array n te)) (he : TyOk P e te) (i : InfoOk P (.arr n e) t) : TyOk P (.arr n e) t := ⟨te, h, he, i⟩
theorem TyOk.mp {k v : Ty} {t tk tv : TypeId} (h : P.underlying t = some (.map tk tv)) (hk : TyOk P k tk) (hv : TyOk P v tv) (i : InfoOk P (.mp k v) t) : TyOk P (.mp k v) t := ⟨tk, tv, h, hk, hv, i⟩
theorem TyOk.ptr {e : Ty} {t te : TypeId} (h : P.underlying t = some (.pointer te)) (he : TyOk P e te) (i : InfoOk P (.ptr e) t) : TyOk P (.ptr e) t := ⟨te, h, he, i⟩
theorem TyOk.inil {t : TypeId} {m : _} (h : P.underlying t = some (.interface m)) (i : InfoOk P .inil t) : TyOk P .inil t := ⟨_, h, i⟩
theorem TyOk.ialt {u t : TypeId} {a r : Ty} {m : _} (h : P.underlying t = some (.interface m)) (ha : TyOk P a u) (hr : TyOk P r t) (i : InfoOk P (.ialt u a r) t) : TyOk P (.ialt u a r) t := ⟨_, h, ha, hr, i⟩
theorem TyOk.unit {t : TypeId} (h : P.underlying t = some (.struct #[])) (i : InfoOk P .unit t) : TyOk P .unit t := ⟨_, h, rfl, i⟩
def TFields (P : Program) (τ : Ty) (fs : List Field) (off : Nat) : Prop := (TyF P τ).2 fs off
theorem TFields.nil {off : Nat} : TFields P .unit [] off := rfl
theorem TFields.cons {a b : Ty} {f : Field} {l : List Field} {off : Nat} (ho : f.offset = off) (h : TyOk P a f.type) (r : TFields P b l (off + a.sz)) : TFields P (.pair a b) (f :: l) off := ⟨f, l, rfl, ho, h, r⟩
theorem TyOk.struct {a b : Ty} {t : TypeId} {fs : Array Field} (h : P.underlying t = some (.struct fs)) (r : TFields P (.pair a b) fs.toList 0) (i : InfoOk P (.pair a b) t) : TyOk P (.pair a b) t := by
  obtain ⟨f, l, e, ho, h1, h2⟩ := r
  exact ⟨fs, h, ⟨f, l, e, ho, h1, h2⟩, i⟩
def Tab.of (l : List (Nat × Ty)) (lv : List (Nat × Nat)) : Tab := ⟨fun t => look t l, fun t => (look t lv).getD 0, false⟩
def Tab.moves (T : Tab) : Tab := ⟨T.ty, T.lv, true⟩
theorem TabOk.moves {T : Tab} (h : TabOk P T) : TabOk P T.moves := h
theorem look_in {α : Type} {n : Nat} {x : α} : ∀ {l : List (Nat × α)}, look n l = some x → (n, x) ∈ l
  | [], h => by cases h
  | (m, y) :: l, h => by
    unfold look at h
    split at h
    · rename_i e; cases h; subst e; simp
    · exact List.mem_cons_of_mem _ (look_in h)
theorem TabOk.of {l : List (Nat × Ty)} {lv : List (Nat × Nat)} (h : ∀ p ∈ l, TyOk P p.2 p.1) : TabOk P (Tab.of l lv) :=
  fun t τ e => h (t, τ) (look_in e)
theorem Enters.mk {f : FuncId} {fn : Func} (hf : P.funcs[f]? = some fn) (hn : (fn.name == "runtime.NumGoroutine") = false) (hb : fn.body.isNone = false) : Enters P f := by
  intro args w
  show (Sem.bind _ _).run P w = _
  rw [run_bind_ok (s := program) (x := P) (w' := w) rfl, hf]
  simp only [hn, hb]
  rfl
/-- The contracts: a list. -/
def conOf (l : List (Nat × Con)) (f : FuncId) : Option Con := look f l
theorem ConsOk.nil : ConsOk P (conOf []) := fun f c h => by cases h
theorem ConsOk.cons {f : Nat} {c : Con} {l : List (Nat × Con)} (he : Enters P f) (hf : FnOK P f c) (r : ConsOk P (conOf l)) : ConsOk P (conOf ((f, c) :: l)) := by
  intro g d h
  unfold conOf look at h
  split at h
  · rename_i e; cases h; subst e; exact ⟨he, hf⟩
  · exact r g d h
def tblN (l : List (Nat × List Nat)) (n : Nat) : List Nat := (look n l).getD []
def tbl1 (l : List (Nat × Nat)) (n : Nat) : Nat := (look n l).getD 0
end Go.Proofs.YtjpeblicfhfniaaDoor.Eng
