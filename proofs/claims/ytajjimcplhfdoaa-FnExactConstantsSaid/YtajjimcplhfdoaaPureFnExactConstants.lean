/- The law FnExactConstants: each exported constant of the program is the reference's number. No condition. -/
import Derived.Test.YtajjimcplhfdoaaPFnExactConstantsx1
namespace Go.Proofs.Ytajjimcplhfdoaa.Pure
open Go.RowKit Go.Proofs.Ytajjimcplhfdoaa.PFnExactConstants Go.Proofs.YtajjimcplhfdoaaW.PrintWords Go.Proofs.YtajjimcplhfdoaaW.PrintLast

/-- YOURS: laws_FnExactConstants.f  = some true
What it reaches (each with k first where it has rounds; `.mono`: more rounds tell the same; `.l0`, ..: its loops, with `.mono_l`): laws_FnExactConstants.f -/
theorem FnExactConstants : laws_FnExactConstants.Pure := by
  rfl

end Go.Proofs.Ytajjimcplhfdoaa.Pure
