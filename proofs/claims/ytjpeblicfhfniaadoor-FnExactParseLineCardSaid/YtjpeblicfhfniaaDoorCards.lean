/-
  DERIVED. GIVEN WITH THE SEED: THE CARDS: each row of YtjpeblicfhfniaaDoorRows.lean that lists a variable, with what it lists TIED to the program's text (the seventh form; the later family's looks); each row that meets fmt, with fmt's text TOLD by the authors' own Lean function (tested against real Go, not proved from fmt's source: count such statements apart). THE CARD IS WHAT COUNTS. Prove the row's statement (the work); the ties are given (YtjpeblicfhfniaaDoorTie.lean); close each card by the builder's one call (the guide's Derived/Test/ToyasCard.lean, 'card_holds'). Laid BY PROGRAM, IN A SANDBOX (cutbox-door.mjs). By AI agents, Wed Nov 11 2026. No macro, syntax, notation, axiom, sorry.
-/
import Derived.Test.YtjpeblicfhfniaaDoorRows
import GoSem.ClaimSeven
namespace Go.Proofs.YtjpeblicfhfniaaDoor
namespace Rows

/-- THE TIED CARD OF 'laws.FnExactSplitPath'. -/
def fnExactSplitPathCard : Claim7 := { stood := { row := fnExactSplitPathRow, standIns := [], harness := (true, "fb6160f59bd0e2ccccd05e5c5c6b66407a6f57d3cdc5fe727a0411ab82a31c20"), looks := false }, kinds := [], alts := [], laidByText := true, laidKinds := [.data, .pinned], laidTests := true, laidLooks := .later }
def FnExactSplitPathCardSaid : Prop := Claim7.holds Tryd.pinned (.plain (OpenSpec.ofChange fnExactSplitPathSpec)) fnExactSplitPathCard

/-- THE TIED CARD OF 'laws.FnExactParseLine'. -/
def fnExactParseLineCard : Claim7 := { stood := { row := fnExactParseLineRow, standIns := [], harness := (true, "fb6160f59bd0e2ccccd05e5c5c6b66407a6f57d3cdc5fe727a0411ab82a31c20"), looks := false }, kinds := [], alts := [], laidByText := true, laidKinds := [.data, .pinned], laidTests := true, laidLooks := .later }
def FnExactParseLineCardSaid : Prop := Claim7.holds Tryd.pinned (.plain (OpenSpec.ofChange fnExactParseLineSpec)) fnExactParseLineCard

/-- THE SECOND FORM's CARD OF 'laws.FnExactSplitPath'. -/
def fnExactSplitPathUptoCard : Claim7 := { stood := { row := fnExactSplitPathUptoRow, standIns := [], harness := (true, "fb6160f59bd0e2ccccd05e5c5c6b66407a6f57d3cdc5fe727a0411ab82a31c20"), looks := false }, kinds := [], alts := [], laidByText := true, laidKinds := [.data, .pinned], laidTests := true, laidLooks := .later }
def FnExactSplitPathUptoCardSaid : Prop := Claim7.holds Tryd.pinned (.plain (OpenSpec.upto fnExactSplitPathSpec)) fnExactSplitPathUptoCard

/-- THE SECOND FORM's CARD OF 'laws.FnExactParseLine'. -/
def fnExactParseLineUptoCard : Claim7 := { stood := { row := fnExactParseLineUptoRow, standIns := [], harness := (true, "fb6160f59bd0e2ccccd05e5c5c6b66407a6f57d3cdc5fe727a0411ab82a31c20"), looks := false }, kinds := [], alts := [], laidByText := true, laidKinds := [.data, .pinned], laidTests := true, laidLooks := .later }
def FnExactParseLineUptoCardSaid : Prop := Claim7.holds Tryd.pinned (.plain (OpenSpec.upto fnExactParseLineSpec)) fnExactParseLineUptoCard
end Rows
end Go.Proofs.YtjpeblicfhfniaaDoor
