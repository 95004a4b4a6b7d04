/- For every argument the program answers as the reference does: the row of FnExactDecodeNode and its tied card. -/
import Derived.Test.YtegbadccjidfjaaDoorRows
import Derived.Test.YtegbadccjidfjaaDoorCards
import Derived.Test.YtegbadccjidfjaaDoorTie
import Derived.Test.YtegbadccjidfjaaDoorRo
import Derived.Test.YtegbadccjidfjaaDoorD8
import Derived.SevenTiedAt
import Derived.Stop.Joined
namespace Go.Proofs.YtegbadccjidfjaaDoor.fnExactDecodeNode
open Go.ChangeShapes Go.WideShapes Go.ChangeAt Go.RowKit Go.Proofs.YtegbadccjidfjaaDoor.EngTab
set_option linter.unusedVariables false
set_option maxRecDepth 100000 in
theorem lifted (os : Os) (started : os.Started) (H : Type) (enc : TypeId × Value → H) :
    ReturnsInHanded {} Tryd.checked os 8 .any (fun w args => (Rows.fnExactDecodeNodeSpec.pre enc Tryd.prog Tryd.f8 Rows.fnExactDecodeNodeRow.domain false w args ∧ laidMetH Tryd.prog laid4 w) ∧ sizedMet enc Tryd.prog Tryd.f8 (OpenSpec.ofChange Rows.fnExactDecodeNodeSpec) false w args)
      (Rows.fnExactDecodeNodeSpec.post enc Tryd.prog Tryd.f8 false true false false) := by
  refine returnsInHanded_of_change_and (C := Tryd.checked) (X := fun w _ => laidMetH Tryd.prog laid4 w) (fun _ _ _ hh h => h.of_heap hh) own started (by kernel_rfl) Tryd.func8
    (ChangeSpec.witness_at (enc := enc) (C := Tryd.checked) (os := os) (X := fun w _ => laidMetH Tryd.prog laid4 w) false (laidW os) #[.slice none 0 0] 8 rfl (by kernel_rfl) (by kernel_rfl) (by kernel_rfl) (by kernel_rfl) (by kernel_rfl) (laidW_met os _)) ?_
  intro W base args ds gs before hval hW hc hsz hL _
  obtain ⟨g, hg, hgood⟩ := sen_of_laid hL
  exact Eng.law_row (fn := Tryd.f8) (t := 4) (ps := [(false, 0, tyB)]) laidOut rfl Tryd.underlying4 (by kernel_rfl) ⟨rfl, rfl, ty26, trivial⟩ (by kernel_rfl)
    (fun ds gs hd hg => by
      match ds, gs, hd, hg with
      | [d], [g1, g2, g3], _, _ => rfl)
    (ok8 g hgood) (fun _ => trivial) (fun _ _ _ h => h) hval hW hsz hg
theorem over : Rows.FnExactDecodeNodeSaid :=
  OpenClaim.holds_of_wide 8 Tryd.f8 rfl rfl rfl rfl rfl rfl rfl ⟨rfl, rfl, rfl, rfl, rfl⟩ rfl rfl rfl rfl rfl (by kernel_rfl) Tryd.func8 (by kernel_rfl)
    (of_decide_eq_true (by kernel_rfl)) (by unfold Func.isWrapper; first | (rw [if_pos (by decide +kernel)]; kernel_rfl) | (rw [if_neg (by decide +kernel)]; exact ⟨rfl, rfl⟩))
    (fun os started H enc _ => lifted os started H enc)
theorem card : Rows.FnExactDecodeNodeCardSaid :=
  Claim7.holds_tied_plain_at .later [] [.handle, .sentinel, .sentinel, .sentinel] true (true, "760c45fca573fed9275073fe91126a26873aa2095e2f6530adac94609a36b720") true over (fun _ h => by cases h) (by kernel_rfl) (fun _ h => by cases h) fnExactDecodeNode_row_tie rfl ⟨rfl, rfl⟩ (by kernel_rfl) rfl
    (fun f fn hf hfn => by
      obtain rfl : f = 8 := Option.some.inj ((show Tryd.prog.funcNamed "loop.example/s01595/laws.FnExactDecodeNode" = some 8 by kernel_rfl).symm.trans hf) |>.symm
      obtain rfl : fn = Tryd.f8 := (Option.some.inj (Tryd.func8.symm.trans hfn)).symm
      exact ⟨by kernel_rfl, fun j t ht => by
        have hall : (Tryd.f8.params.toList.all fun u => !Tryd.prog.wantsStandIn u) = true := by kernel_rfl
        exact (show Tryd.prog.wantsStandIn t = false by simpa using List.all_eq_true.1 hall t (by simpa using Array.mem_of_getElem? ht))⟩)
    (by kernel_rfl)
end Go.Proofs.YtegbadccjidfjaaDoor.fnExactDecodeNode
namespace Go.Proofs.YtegbadccjidfjaaDoor
/-- The card, under a short name, for the claim. -/
theorem fnExactDecodeNode_holds : Rows.FnExactDecodeNodeCardSaid := fnExactDecodeNode.card
end Go.Proofs.YtegbadccjidfjaaDoor
