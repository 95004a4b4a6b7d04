/- What the listed package variables give a row of this seat; a world in which they are laid. -/
import Derived.Test.YtmjeghlfmhbjdaaDoorRows
import Derived.Test.YtmjeghlfmhbjdaaDoorIc
import Derived.Test.YtmjeghlfmhbjdaaDoorEn4
import Derived.LaidLaws
import Derived.LaidHandle
import Derived.Stop.LaidErr
import Derived.Stop.LaidTwo
import Derived.Stop.Texts
import Derived.RowKitTokens
import Derived.LaidMore
import Derived.Lay
import Derived.JoinedOf
namespace Go.Proofs.YtmjeghlfmhbjdaaDoor.EngTab
open Go.RowKit Go.Proofs.YtmjeghlfmhbjdaaDoor.Eng Go.ChangeShapes
set_option maxRecDepth 100000
set_option linter.unusedVariables false
theorem own : ownKnob Tryd.prog.godebug = none := by kernel_rfl
theorem laidOut : laidOutB Tryd.prog = true := by kernel_rfl
abbrev laid3 : List (String × DataW Unit) := [("loop.example/s01595/impl.errSize", Rows.laid_loop_example_s01595_impl_errSize), ("loop.example/s01595/impl.errSum", Rows.laid_loop_example_s01595_impl_errSum), ("loop.example/s01595/impl.errForm", Rows.laid_loop_example_s01595_impl_errForm)]
abbrev laid4 : List (String × DataW Unit) := ("errors.errorType", Rows.laid_errors_errorType) :: laid3
theorem gForm : Tryd.prog.globalNamed "loop.example/s01595/impl.errForm" = some 0 := by kernel_rfl
theorem gSize : Tryd.prog.globalNamed "loop.example/s01595/impl.errSize" = some 1 := by kernel_rfl
theorem gSum : Tryd.prog.globalNamed "loop.example/s01595/impl.errSum" = some 2 := by kernel_rfl
theorem gHand : Tryd.prog.globalNamed "errors.errorType" = some 3 := by kernel_rfl
theorem tForm : (Tryd.prog.globals[0]?).map (·.type) = some 66 := by kernel_rfl
theorem tSize : (Tryd.prog.globals[1]?).map (·.type) = some 66 := by kernel_rfl
theorem tSum : (Tryd.prog.globals[2]?).map (·.type) = some 66 := by kernel_rfl
theorem cells168 : Tryd.prog.cellsOf 168 = 1 := by kernel_rfl
theorem cells9 : Tryd.prog.cellsOf 9 = 1 := by kernel_rfl
theorem star : "*" ++ "errors.errorString" = "*errors.errorString" := by decide
theorem row145 (u : TypeId) (h : Tryd.prog.typeName? 3 u = some "*errors.errorString") : u = 145 :=
 typeName_ptr_named (nm := "errors.errorString") (by rw [star]; kernel_rfl) (by kernel_rfl) (by decide) u (by rw [star]; exact h)
theorem rtypeRow : (Tryd.prog.cutTypes.find? (·.1 == "internal/reflectlite.rtype")).map (·.2) = some 130 := by kernel_rfl
theorem typesSize : Tryd.prog.types.size = (List.range Tryd.prog.types.size).length := by simp
theorem oneRow : ((List.range Tryd.prog.types.size).filter fun t => Tryd.prog.rowNamed t [101, 114, 114, 111, 114]) = [66] := by kernel_rfl
theorem heap_of_var {P : Program} {W : World} {n : String} {g : Nat} {x : Value} (hg : P.globalNamed n = some g) (hv : W.var? P n = some #[x]) : ∃ ty fz, W.heap[g]? = some (.cells #[x] ty fz) := by
 unfold World.var? at hv
 rw [hg] at hv
 simp only [Option.bind_some] at hv
 split at hv
 ·rename_i cs ty fz hh
  simp only [Option.some.injEq] at hv
  subst hv
  exact ⟨ty, fz, hh⟩
 ·cases hv
theorem gok_one {W : World} {g : Nat} {x : Value} (h : ∃ ty fz, W.heap[g]? = some (.cells #[x] ty fz)) (h1 : one x = true) (h2 : ∀ u a, x = .iface u (.pointer (some a)) → ∃ arr ty, W.heap[a.block]? = some (.cells arr ty (0, 0))) :
  Zw W g ∧ ∃ arr ty fz, hp W g = some (.cells arr ty fz) ∧ arr[0]? = some x ∧ one x = true ∧ ∀ u a, x = .iface u (.pointer (some a)) → Zw W a.block ∧ ∃ arr ty, hp W a.block = some (.cells arr ty (0, 0)) := by
 obtain ⟨ty, fz, hh⟩ := h
 refine ⟨(Array.getElem?_eq_some_iff.1 hh).1, _, ty, fz, hh, rfl, h1, fun u a e => ?_⟩
 obtain ⟨arr, ty, h3⟩ := h2 u a e
 exact ⟨(Array.getElem?_eq_some_iff.1 h3).1, arr, ty, h3⟩
theorem hand_of_laid {W : World} (h : handlesMet Tryd.prog [("errors.errorType", Rows.laid_errors_errorType)] W) : W.var? Tryd.prog "errors.errorType" = some #[vHand] := by
 obtain ⟨name, u, ty, e1, e2, e3, e4, e5⟩ := h _ (List.mem_singleton.2 rfl)
 have en : name = [101, 114, 114, 111, 114] := (Option.some.inj e1).symm
 subst en
 obtain rfl := Option.some.inj (rtypeRow.symm.trans e2)
 have hm : ty ∈ (List.range Tryd.prog.types.size).filter fun t => Tryd.prog.rowNamed t [101, 114, 114, 111, 114] := List.mem_filter.2 ⟨List.mem_range.2 e3, e4⟩
 rw [oneRow] at hm
 obtain rfl := List.mem_singleton.1 hm
 have hh : typeHandle (Tryd.prog) 66 = .pointer (some ⟨4, 66, none⟩) := by kernel_rfl
 rw [hh] at e5
 exact e5
theorem sen_of_laid {W : World} (h : laidMetH Tryd.prog laid4 W) : ∃ g : Sen, GOk (hp W) (Zw W) g.gl4 ∧ g.good := by
 have h' : laidMet Tryd.prog laid3 W ∧ handlesMet Tryd.prog [("errors.errorType", Rows.laid_errors_errorType)] W := h
 obtain ⟨h0, hh⟩ := h'
 have h1 := h0.tail
 obtain ⟨a, b, s0, s1, c0, c1, t0, t1, hv, hv1, hc, hs, _, hc1, hs1, _, hab, hb0, hb1⟩ := laid_sentinels2 h0 gSize tSize gSum tSum Tryd.underlying66 row145 Tryd.underlying145 Tryd.underlying168 rfl rfl Tryd.underlying9 cells168 cells9
 obtain ⟨b', c, s1', s2, c1', c2, t1', t2, hv1', hv2, hc1', hs1', _, hc2, hs2, _, hbc, hb1', hb2⟩ := laid_sentinels2 h1 gSum tSum gForm tForm Tryd.underlying66 row145 Tryd.underlying145 Tryd.underlying168 rfl rfl Tryd.underlying9 cells168 cells9
 have eb : b' = b := by
  rw [hv1] at hv1'
  simpa using hv1'.symm
 subst eb
 have ne : ∀ {a b : Addr} {s t : ByteArray}, W.cell? a = some (.string s) → W.cell? b = some (.string t) → s.data.toList ≠ t.data.toList → a ≠ b := by
  rintro a b s t h1 h2 hn rfl
  rw [h1] at h2
  cases h2
  exact hn rfl
 refine ⟨⟨.iface 145 (.pointer (some c)), .iface 145 (.pointer (some a)), .iface 145 (.pointer (some b'))⟩, ?_, a, b', c, rfl, rfl, rfl, hab, ne hc hc2 (by rw [hs, hs2]; decide), hbc⟩
 intro p hp
 simp only [Sen.gl4, List.mem_cons, List.not_mem_nil, or_false] at hp
 rcases hp with rfl | rfl | rfl | rfl
 ·exact gok_one (heap_of_var gForm hv2) rfl (fun u a e => by cases e; exact ⟨_, _, hb2⟩)
 ·exact gok_one (heap_of_var gSize hv) rfl (fun u a e => by cases e; exact ⟨_, _, hb0⟩)
 ·exact gok_one (heap_of_var gSum hv1) rfl (fun u a e => by cases e; exact ⟨_, _, hb1⟩)
 ·exact gok_one (heap_of_var gHand (hand_of_laid hh)) rfl (fun u a e => by cases e)
/-! ### A world in which they are laid -/
abbrev txSize : ByteArray := ⟨#[110, 111, 116, 32, 97, 32, 98, 108, 111, 99, 107, 39, 115, 32, 115, 105, 122, 101]⟩
abbrev txSum : ByteArray := ⟨#[116, 104, 101, 32, 115, 117, 109, 32, 105, 115, 32, 119, 114, 111, 110, 103]⟩
abbrev txForm : ByteArray := ⟨#[110, 111, 116, 32, 97, 32, 102, 111, 114, 109]⟩
noncomputable def low : Nat := (World.holding Tryd.prog default ⟨#[], #[], []⟩).heap.size
def putCell (v : Value) : Obj → Obj
 | .cells _ t fz => .cells #[v] t fz
 | o => o
noncomputable def laidW (os : Os) : World :=
 let w0 := World.holding Tryd.prog os ⟨#[.cells #[.string txSize] 168, .cells #[.string txSum] 168, .cells #[.string txForm] 168], #[], []⟩
 { w0 with heap := (((w0.heap.modify 3 (putCell vHand)).modify 1 (putCell (.iface 145 (.pointer (some ⟨low, 0, none⟩))))).modify 2 (putCell (.iface 145 (.pointer (some ⟨low + 1, 0, none⟩))))).modify 0 (putCell (.iface 145 (.pointer (some ⟨low + 2, 0, none⟩)))) }
theorem laidW_met (os : Os) (args : Array Value) : laidMetH Tryd.prog laid4 ((laidW os).forCall (fun _ _ => 0) ⟨#[], args, []⟩).memory :=
 laidMetH_of_parts (laidMet_of_run' 8 (by kernel_rfl) (by kernel_rfl)) (by kernel_rfl)
end Go.Proofs.YtmjeghlfmhbjdaaDoor.EngTab
