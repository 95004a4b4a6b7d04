/-
  DERIVED. GIVEN WITH THE SEED: THE CARDS: each row of YtegbadccjidfjaaDoorRows.lean that lists a variable, with what it lists TIED to the program's text (the seventh form; the later family's looks); each row that meets fmt, with fmt's text TOLD by the authors' own Lean function (tested against real Go, not proved from fmt's source: count such statements apart). THE CARD IS WHAT COUNTS. Prove the row's statement (the work); the ties are given (YtegbadccjidfjaaDoorTie.lean); close each card by the builder's one call (the guide's Derived/Test/ToyasCard.lean, 'card_holds'). Laid BY PROGRAM, IN A SANDBOX (cutbox-door.mjs). By AI agents, Wed Nov 11 2026. No macro, syntax, notation, axiom, sorry.
-/
import Derived.Test.YtegbadccjidfjaaDoorRows
import GoSem.ClaimSeven
namespace Go.Proofs.YtegbadccjidfjaaDoor
namespace Rows

/-- THE TIED CARD OF 'laws.FnExactEncodeTable'. -/
def fnExactEncodeTableCard : Claim7 := { stood := { row := fnExactEncodeTableRow, standIns := [], harness := (true, "760c45fca573fed9275073fe91126a26873aa2095e2f6530adac94609a36b720"), looks := true }, kinds := [], alts := [], laidByText := true, laidKinds := [.handle, .sentinel, .sentinel, .sentinel], laidTests := true, laidLooks := .later }
def FnExactEncodeTableCardSaid : Prop := Claim7.holds Tryd.pinned (.plain (OpenSpec.ofChange fnExactEncodeTableSpec)) fnExactEncodeTableCard

/-- THE TIED CARD OF 'laws.FnExactEncodeSuper'. -/
def fnExactEncodeSuperCard : Claim7 := { stood := { row := fnExactEncodeSuperRow, standIns := [], harness := (true, "760c45fca573fed9275073fe91126a26873aa2095e2f6530adac94609a36b720"), looks := true }, kinds := [], alts := [], laidByText := true, laidKinds := [.handle, .sentinel, .sentinel, .sentinel], laidTests := true, laidLooks := .later }
def FnExactEncodeSuperCardSaid : Prop := Claim7.holds Tryd.pinned (.plain (OpenSpec.ofChange fnExactEncodeSuperSpec)) fnExactEncodeSuperCard

/-- THE TIED CARD OF 'laws.FnExactDecodeTable'. -/
def fnExactDecodeTableCard : Claim7 := { stood := { row := fnExactDecodeTableRow, standIns := [], harness := (true, "760c45fca573fed9275073fe91126a26873aa2095e2f6530adac94609a36b720"), looks := true }, kinds := [], alts := [], laidByText := true, laidKinds := [.handle, .sentinel, .sentinel, .sentinel], laidTests := true, laidLooks := .later }
def FnExactDecodeTableCardSaid : Prop := Claim7.holds Tryd.pinned (.plain (OpenSpec.ofChange fnExactDecodeTableSpec)) fnExactDecodeTableCard

/-- THE TIED CARD OF 'laws.FnExactDecodeSuper'. -/
def fnExactDecodeSuperCard : Claim7 := { stood := { row := fnExactDecodeSuperRow, standIns := [], harness := (true, "760c45fca573fed9275073fe91126a26873aa2095e2f6530adac94609a36b720"), looks := true }, kinds := [], alts := [], laidByText := true, laidKinds := [.handle, .sentinel, .sentinel, .sentinel], laidTests := true, laidLooks := .later }
def FnExactDecodeSuperCardSaid : Prop := Claim7.holds Tryd.pinned (.plain (OpenSpec.ofChange fnExactDecodeSuperSpec)) fnExactDecodeSuperCard

/-- THE TIED CARD OF 'laws.FnExactEncodeNode'. -/
def fnExactEncodeNodeCard : Claim7 := { stood := { row := fnExactEncodeNodeRow, standIns := [], harness := (true, "760c45fca573fed9275073fe91126a26873aa2095e2f6530adac94609a36b720"), looks := true }, kinds := [], alts := [], laidByText := true, laidKinds := [.handle, .sentinel, .sentinel, .sentinel], laidTests := true, laidLooks := .later }
def FnExactEncodeNodeCardSaid : Prop := Claim7.holds Tryd.pinned (.plain (OpenSpec.ofChange fnExactEncodeNodeSpec)) fnExactEncodeNodeCard

/-- THE TIED CARD OF 'laws.FnExactDecodeNode'. -/
def fnExactDecodeNodeCard : Claim7 := { stood := { row := fnExactDecodeNodeRow, standIns := [], harness := (true, "760c45fca573fed9275073fe91126a26873aa2095e2f6530adac94609a36b720"), looks := true }, kinds := [], alts := [], laidByText := true, laidKinds := [.handle, .sentinel, .sentinel, .sentinel], laidTests := true, laidLooks := .later }
def FnExactDecodeNodeCardSaid : Prop := Claim7.holds Tryd.pinned (.plain (OpenSpec.ofChange fnExactDecodeNodeSpec)) fnExactDecodeNodeCard

/-- THE TIED CARD OF 'laws.FnExactMkfsSteps'. -/
def fnExactMkfsStepsCard : Claim7 := { stood := { row := fnExactMkfsStepsRow, standIns := [], harness := (true, "760c45fca573fed9275073fe91126a26873aa2095e2f6530adac94609a36b720"), looks := true }, kinds := [], alts := [], laidByText := true, laidKinds := [.handle, .sentinel, .sentinel, .sentinel], laidTests := true, laidLooks := .later }
def FnExactMkfsStepsCardSaid : Prop := Claim7.holds Tryd.pinned (.plain (OpenSpec.ofChange fnExactMkfsStepsSpec)) fnExactMkfsStepsCard

/-- THE TIED CARD OF 'laws.FnExactMkfs'. -/
def fnExactMkfsCard : Claim7 := { stood := { row := fnExactMkfsRow, standIns := [], harness := (true, "760c45fca573fed9275073fe91126a26873aa2095e2f6530adac94609a36b720"), looks := true }, kinds := [], alts := [], laidByText := true, laidKinds := [.handle, .sentinel, .sentinel, .sentinel], laidTests := true, laidLooks := .later }
def FnExactMkfsCardSaid : Prop := Claim7.holds Tryd.pinned (.plain (OpenSpec.ofChange fnExactMkfsSpec)) fnExactMkfsCard

/-- THE SECOND FORM's CARD OF 'laws.FnExactEncodeTable'. -/
def fnExactEncodeTableUptoCard : Claim7 := { stood := { row := fnExactEncodeTableUptoRow, standIns := [], harness := (true, "760c45fca573fed9275073fe91126a26873aa2095e2f6530adac94609a36b720"), looks := true }, kinds := [], alts := [], laidByText := true, laidKinds := [.handle, .sentinel, .sentinel, .sentinel], laidTests := true, laidLooks := .later }
def FnExactEncodeTableUptoCardSaid : Prop := Claim7.holds Tryd.pinned (.plain (OpenSpec.upto fnExactEncodeTableSpec)) fnExactEncodeTableUptoCard

/-- THE SECOND FORM's CARD OF 'laws.FnExactEncodeSuper'. -/
def fnExactEncodeSuperUptoCard : Claim7 := { stood := { row := fnExactEncodeSuperUptoRow, standIns := [], harness := (true, "760c45fca573fed9275073fe91126a26873aa2095e2f6530adac94609a36b720"), looks := true }, kinds := [], alts := [], laidByText := true, laidKinds := [.handle, .sentinel, .sentinel, .sentinel], laidTests := true, laidLooks := .later }
def FnExactEncodeSuperUptoCardSaid : Prop := Claim7.holds Tryd.pinned (.plain (OpenSpec.upto fnExactEncodeSuperSpec)) fnExactEncodeSuperUptoCard

/-- THE SECOND FORM's CARD OF 'laws.FnExactDecodeTable'. -/
def fnExactDecodeTableUptoCard : Claim7 := { stood := { row := fnExactDecodeTableUptoRow, standIns := [], harness := (true, "760c45fca573fed9275073fe91126a26873aa2095e2f6530adac94609a36b720"), looks := true }, kinds := [], alts := [], laidByText := true, laidKinds := [.handle, .sentinel, .sentinel, .sentinel], laidTests := true, laidLooks := .later }
def FnExactDecodeTableUptoCardSaid : Prop := Claim7.holds Tryd.pinned (.plain (OpenSpec.upto fnExactDecodeTableSpec)) fnExactDecodeTableUptoCard

/-- THE SECOND FORM's CARD OF 'laws.FnExactDecodeSuper'. -/
def fnExactDecodeSuperUptoCard : Claim7 := { stood := { row := fnExactDecodeSuperUptoRow, standIns := [], harness := (true, "760c45fca573fed9275073fe91126a26873aa2095e2f6530adac94609a36b720"), looks := true }, kinds := [], alts := [], laidByText := true, laidKinds := [.handle, .sentinel, .sentinel, .sentinel], laidTests := true, laidLooks := .later }
def FnExactDecodeSuperUptoCardSaid : Prop := Claim7.holds Tryd.pinned (.plain (OpenSpec.upto fnExactDecodeSuperSpec)) fnExactDecodeSuperUptoCard

/-- THE SECOND FORM's CARD OF 'laws.FnExactEncodeNode'. -/
def fnExactEncodeNodeUptoCard : Claim7 := { stood := { row := fnExactEncodeNodeUptoRow, standIns := [], harness := (true, "760c45fca573fed9275073fe91126a26873aa2095e2f6530adac94609a36b720"), looks := true }, kinds := [], alts := [], laidByText := true, laidKinds := [.handle, .sentinel, .sentinel, .sentinel], laidTests := true, laidLooks := .later }
def FnExactEncodeNodeUptoCardSaid : Prop := Claim7.holds Tryd.pinned (.plain (OpenSpec.upto fnExactEncodeNodeSpec)) fnExactEncodeNodeUptoCard

/-- THE SECOND FORM's CARD OF 'laws.FnExactDecodeNode'. -/
def fnExactDecodeNodeUptoCard : Claim7 := { stood := { row := fnExactDecodeNodeUptoRow, standIns := [], harness := (true, "760c45fca573fed9275073fe91126a26873aa2095e2f6530adac94609a36b720"), looks := true }, kinds := [], alts := [], laidByText := true, laidKinds := [.handle, .sentinel, .sentinel, .sentinel], laidTests := true, laidLooks := .later }
def FnExactDecodeNodeUptoCardSaid : Prop := Claim7.holds Tryd.pinned (.plain (OpenSpec.upto fnExactDecodeNodeSpec)) fnExactDecodeNodeUptoCard

/-- THE SECOND FORM's CARD OF 'laws.FnExactMkfsSteps'. -/
def fnExactMkfsStepsUptoCard : Claim7 := { stood := { row := fnExactMkfsStepsUptoRow, standIns := [], harness := (true, "760c45fca573fed9275073fe91126a26873aa2095e2f6530adac94609a36b720"), looks := true }, kinds := [], alts := [], laidByText := true, laidKinds := [.handle, .sentinel, .sentinel, .sentinel], laidTests := true, laidLooks := .later }
def FnExactMkfsStepsUptoCardSaid : Prop := Claim7.holds Tryd.pinned (.plain (OpenSpec.upto fnExactMkfsStepsSpec)) fnExactMkfsStepsUptoCard

/-- THE SECOND FORM's CARD OF 'laws.FnExactMkfs'. -/
def fnExactMkfsUptoCard : Claim7 := { stood := { row := fnExactMkfsUptoRow, standIns := [], harness := (true, "760c45fca573fed9275073fe91126a26873aa2095e2f6530adac94609a36b720"), looks := true }, kinds := [], alts := [], laidByText := true, laidKinds := [.handle, .sentinel, .sentinel, .sentinel], laidTests := true, laidLooks := .later }
def FnExactMkfsUptoCardSaid : Prop := Claim7.holds Tryd.pinned (.plain (OpenSpec.upto fnExactMkfsSpec)) fnExactMkfsUptoCard
end Rows
end Go.Proofs.YtegbadccjidfjaaDoor
