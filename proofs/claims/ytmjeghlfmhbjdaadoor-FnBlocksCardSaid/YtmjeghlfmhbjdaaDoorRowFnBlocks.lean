/- Nodes, tables and superblocks come back from their bytes, well-formed bytes from their values, and any of up to 30 single turned bits is told by ErrSum: the row of FnBlocks and its tied card. -/
import Derived.Test.YtmjeghlfmhbjdaaDoorRows
import Derived.Test.YtmjeghlfmhbjdaaDoorCards
import Derived.Test.YtmjeghlfmhbjdaaDoorTie
import Derived.Test.YtmjeghlfmhbjdaaDoorRo
import Derived.Test.YtmjeghlfmhbjdaaDoorLW
import Derived.SevenTiedAt
import Derived.Stop.Joined
namespace Go.Proofs.YtmjeghlfmhbjdaaDoor.fnBlocks
open Go.ChangeShapes Go.WideShapes Go.ChangeAt Go.RowKit Go.Proofs.YtmjeghlfmhbjdaaDoor.EngTab
set_option linter.unusedVariables false
set_option maxRecDepth 100000 in
theorem lifted (os : Os) (started : os.Started) (H : Type) (enc : TypeId × Value → H) :
  ReturnsInHanded {} Tryd.checked os 3 .any (fun w args => (Rows.fnBlocksSpec.pre enc Tryd.prog Tryd.f3 Rows.fnBlocksRow.domain false w args ∧ laidMetH Tryd.prog laid4 w) ∧ sizedMet enc Tryd.prog Tryd.f3 (OpenSpec.ofChange Rows.fnBlocksSpec) false w args)
   (Rows.fnBlocksSpec.post enc Tryd.prog Tryd.f3 false true false false) := by
 refine returnsInHanded_of_change_and (C := Tryd.checked) (X := fun w _ => laidMetH Tryd.prog laid4 w) (fun _ _ _ hh h => h.of_heap hh) own started (by kernel_rfl) Tryd.func3
  (ChangeSpec.witness_at (enc := enc) (C := Tryd.checked) (os := os) (X := fun w _ => laidMetH Tryd.prog laid4 w) false (laidW os) #[.slice none 0 0, .slice none 0 0] 8 rfl (by kernel_rfl) (by kernel_rfl) (by kernel_rfl) (by kernel_rfl) (by kernel_rfl) (laidW_met os _)) ?_
 intro W base args ds gs before hval hW hc hsz hL _
 obtain ⟨g, hg, hgood⟩ := sen_of_laid hL
 exact Eng.law_row (fn := Tryd.f3) (t := 4) (ps := [(false, 0, tyB), (false, 0, tyB)]) laidOut rfl Tryd.underlying4 (by kernel_rfl) ⟨rfl, rfl, ty22, rfl, rfl, ty22, trivial⟩ (by kernel_rfl)
  (fun ds gs hd hg => by
   match ds, gs, hd, hg with
   | [d1, d2], [g1, g2, g3], _, _ => rfl)
  (ok3 g hgood) (fun _ => trivial) (fun _ _ _ h => h) hval hW hsz hg
theorem over : Rows.FnBlocksSaid :=
 OpenClaim.holds_of_wide 3 Tryd.f3 rfl rfl rfl rfl rfl rfl rfl ⟨rfl, rfl, rfl, rfl, rfl⟩ rfl rfl rfl rfl rfl (by kernel_rfl) Tryd.func3 (by kernel_rfl)
  (of_decide_eq_true (by kernel_rfl)) (by unfold Func.isWrapper; first | (rw [if_pos (by decide +kernel)]; kernel_rfl) | (rw [if_neg (by decide +kernel)]; exact ⟨rfl, rfl⟩))
  (fun os started H enc _ => lifted os started H enc)
theorem card : Rows.FnBlocksCardSaid :=
 Claim7.holds_tied_plain_at .later [] [.handle, .sentinel, .sentinel, .sentinel] true (true, "2e0abc41c716b0f0f997bb3367110d4337d3c697b84889033428df47bb0b218b") true over (fun _ h => by cases h) (by kernel_rfl) (fun _ h => by cases h) fnBlocks_row_tie rfl ⟨rfl, rfl⟩ (by kernel_rfl) rfl
  (fun f fn hf hfn => by
   obtain rfl : f = 3 := Option.some.inj ((show Tryd.prog.funcNamed "loop.example/s01595/laws.FnBlocks" = some 3 by kernel_rfl).symm.trans hf) |>.symm
   obtain rfl : fn = Tryd.f3 := (Option.some.inj (Tryd.func3.symm.trans hfn)).symm
   exact ⟨by kernel_rfl, fun j t ht => by
    have hall : (Tryd.f3.params.toList.all fun u => !Tryd.prog.wantsStandIn u) = true := by kernel_rfl
    exact (show Tryd.prog.wantsStandIn t = false by simpa using List.all_eq_true.1 hall t (by simpa using Array.mem_of_getElem? ht))⟩)
  (by kernel_rfl)
end Go.Proofs.YtmjeghlfmhbjdaaDoor.fnBlocks
namespace Go.Proofs.YtmjeghlfmhbjdaaDoor
/-- The card, under a short name, for the claim. -/
theorem fnBlocks_holds : Rows.FnBlocksCardSaid := fnBlocks.card
end Go.Proofs.YtmjeghlfmhbjdaaDoor
