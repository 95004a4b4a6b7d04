/- For every path, the program's ParseLine returns what the reference's returns: the row and its tied card. -/
import Derived.Test.YtjpeblicfhfniaaDoorRows
import Derived.Test.YtjpeblicfhfniaaDoorCards
import Derived.Test.YtjpeblicfhfniaaDoorTie
import Derived.Test.YtjpeblicfhfniaaDoorX
import Derived.WalkKit
import Derived.ProofKit
import Derived.OpenShut
import Derived.ShutString
import Derived.ChangeOld
import Derived.ChangeMaps5
import Derived.Below
import Derived.SizedLaws
import Derived.LaidMore
import Derived.Lay
import Derived.SevenTiedAt
import Derived.Stop.Joined
namespace Go.Proofs.YtjpeblicfhfniaaDoor.fnExactParseLine
open Go.ChangeShapes Go.WideShapes Go.ChangeAt Go.RowKit Go.Proofs.YtjpeblicfhfniaaDoor.EngTabP
open Go.ChangeMaps (open_string shut_string)
set_option linter.unusedVariables false
theorem own : ownKnob Tryd.prog.godebug = none := by kernel_rfl
theorem laidOut : laidOutB Tryd.prog = true := by kernel_rfl
def laid : List (String × DataW Unit) := [("unicode/utf8.acceptRanges", Rows.laid_unicode_utf8_acceptRanges), ("unicode/utf8.first", Rows.laid_unicode_utf8_first)]
theorem walk (s : ByteArray) (W : World) (hs : s.size ≤ Eng.maxL) : Calls Tryd.prog 4 #[.string s] W fun e w' => e = .returned (.bool true) ∧ Below W.heap.size W w' := by
  have h := ok4 W (fun _ => False) [[]] [.string s] (s, ()) ⟨[], [], .string s, [], [.string s], rfl, rfl, ⟨rfl, rfl, hs⟩, rfl, rfl, rfl⟩ (by simp) (by intro b hb; simp at hb) (fun p h => by cases h) trivial
  refine Calls.mono h ?_
  rintro e w' ⟨rv, y, x', Bs', Rs, rfl, hp, hf, _, _, _, vs, ⟨_, _, v, _, cs, _, rfl, ⟨_, rfl⟩, rfl, _, rfl⟩, rfl⟩
  have hy : y.1 = true := hp
  refine ⟨?_, Eng.Frm.below hf⟩
  show Ending.returned (Eng.valOf false [Value.bool y.1]) = _
  rw [hy]; rfl
set_option maxRecDepth 100000 in
theorem lifted (os : Os) (started : os.Started) (H : Type) (enc : TypeId × Value → H) :
    ReturnsInHanded {} Tryd.checked os 4 .any (fun w args => (Rows.fnExactParseLineSpec.pre enc Tryd.prog Tryd.f4 Rows.fnExactParseLineRow.domain false w args ∧ laidMetH Tryd.prog laid w) ∧ sizedMet enc Tryd.prog Tryd.f4 (OpenSpec.ofChange Rows.fnExactParseLineSpec) false w args)
      (Rows.fnExactParseLineSpec.post enc Tryd.prog Tryd.f4 false true false false) := by
  refine returnsInHanded_of_change_and (C := Tryd.checked) (X := fun w _ => laidMetH Tryd.prog laid w) (fun _ _ _ hh h => h.of_heap hh) own started (by kernel_rfl) Tryd.func4
    (ChangeSpec.witness_shaped (enc := enc) (C := Tryd.checked) (os := os) (X := fun w _ => laidMetH Tryd.prog laid w) false (World.laidAll Tryd.prog os laid) #[.string ⟨#[]⟩] 8 (World.laidAll_os _ _ _)
      (World.shaped_of_ZipB (by kernel_rfl) (by kernel_rfl)) (by kernel_rfl) (by kernel_rfl) (by kernel_rfl)
      (by rw [MakeChecks.laidMetH_plain _ _ _ (by kernel_rfl)]; exact laidMet_laidAll _ (by kernel_rfl) (by kernel_rfl))) ?_
  intro W base args ds gs before hval0 hW hc hsz hL _
  have hval : ∀ (j : Nat) t v, Tryd.f4.params[j]? = some t → args[j]? = some v → Value.okWide Tryd.prog W .any base t v := hval0
  have hW' := hW
  obtain ⟨p, q, hA0, hV, rfl, _, _⟩ := hW
  have hA : DataW.TrodAll enc Tryd.prog W 0 (fun _ => true) true Tryd.f4.params.toList args.toList ds p := hA0
  rw [Tryd.params4] at hA hval
  obtain ⟨v0, d0, rfl, rfl, h0⟩ := trodAll_one hA
  obtain ⟨rfl, rfl⟩ := trodVars_none hV
  obtain ⟨s, rfl, rfl, rfl, ws⟩ := open_string Tryd.underlying9 (hval 0 9 v0 rfl rfl) h0
  have hl : s.data.toList.length ≤ reachBytes := sized_string hsz (j := 0) (t := 9) rfl rfl
  have hl2 : s.size ≤ Eng.maxL := Nat.le_trans hl (by decide)
  refine (walk s W hl2).mono fun e W' hp => ?_
  obtain ⟨he, bel⟩ := hp
  subst he
  exact ⟨_, rfl, _, _, _, [], _, [], hW', trodAll_mk1 (shut_bool Tryd.underlying4 _), (trodAll_cons_mk (shut_string Tryd.underlying9 ws) trodAll_mk0), rfl, bel.frame _, fun h => by cases h⟩
theorem over : Rows.FnExactParseLineSaid :=
  OpenClaim.holds_of_wide 4 Tryd.f4 rfl rfl rfl rfl rfl rfl rfl ⟨rfl, rfl, rfl, rfl, rfl⟩ rfl rfl rfl rfl rfl (by kernel_rfl) Tryd.func4 (by kernel_rfl)
    (of_decide_eq_true (by kernel_rfl)) (by unfold Func.isWrapper; first | (rw [if_pos (by decide +kernel)]; kernel_rfl) | (rw [if_neg (by decide +kernel)]; exact ⟨rfl, rfl⟩))
    (fun os started H enc _ => lifted os started H enc)
theorem card : Rows.FnExactParseLineCardSaid :=
  Claim7.holds_tied_plain_at .later [] [.data, .pinned] true (true, "fb6160f59bd0e2ccccd05e5c5c6b66407a6f57d3cdc5fe727a0411ab82a31c20") false over (fun _ h => by cases h) (by kernel_rfl) (fun _ h => by cases h) fnExactParseLine_row_tie rfl ⟨rfl, rfl⟩ (by kernel_rfl) rfl
    (fun f fn hf hfn => by
      obtain rfl : f = 4 := Option.some.inj ((show Tryd.prog.funcNamed "loop.example/s01595/laws.FnExactParseLine" = some 4 by kernel_rfl).symm.trans hf) |>.symm
      obtain rfl : fn = Tryd.f4 := (Option.some.inj (Tryd.func4.symm.trans hfn)).symm
      exact ⟨by kernel_rfl, fun j t ht => by
        rw [Tryd.params4] at ht
        have hm : t ∈ [9] := by simpa using Array.mem_of_getElem? ht
        have hall : ([9].all fun u => !Tryd.prog.wantsStandIn u) = true := by kernel_rfl
        exact (show Tryd.prog.wantsStandIn t = false by simpa using List.all_eq_true.1 hall t hm)⟩)
    (by kernel_rfl)
end Go.Proofs.YtjpeblicfhfniaaDoor.fnExactParseLine
namespace Go.Proofs.YtjpeblicfhfniaaDoor
/-- The card, under a short name, for the claim. -/
theorem fnExactParseLine_holds : Rows.FnExactParseLineCardSaid := fnExactParseLine.card
end Go.Proofs.YtjpeblicfhfniaaDoor
