/- The law FnBlocks. -/
import Derived.Test.YtmjeghlfmhbjdaaDoorL1
import Derived.Test.YtmjeghlfmhbjdaaDoorL2
import Derived.Test.YtmjeghlfmhbjdaaDoorL3
import Derived.Test.YtmjeghlfmhbjdaaDoorL4
namespace Go.Proofs.YtmjeghlfmhbjdaaDoor.EngTab
open Go.Proofs.YtmjeghlfmhbjdaaDoor.Eng
set_option maxRecDepth 100000
set_option linter.unusedVariables false
theorem ok3 (g : Sen) (hgood : g.good) : FnOK Tryd.prog 3 (c3 g) := by
 refine FnOK.of_VC (code := code3) mixed tabEOk (C3ok g hgood) Tryd.func3 rfl (by show 2 ≤ Tryd.f3.ntmps; decide) lv3 hd3 (fun x _ => ⟨rfl, by show 0 < 1000000; decide⟩) ?_
 rintro ⟨(code : List Int), (more : List Int), ⟨⟩⟩ - hwf
 refine .chop 5 (I1 g code more) (law_1 g code more hwf) (fun Γ1 h1 w1 => ?_)
 refine .chop 4 (I2 g code more) (law_2 g code more Γ1 h1 w1) (fun Γ2 h2 w2 => ?_)
 refine .chop 3 (I3 g code more) (law_3 g code more Γ2 h2 w2) (fun Γ3 h3 w3 => ?_)
 exact .one (law_4 g code more Γ3 h3 w3)
end Go.Proofs.YtmjeghlfmhbjdaaDoor.EngTab
