/-
  DERIVED. GIVEN WITH THE SEED: THE CARDS: each row of YtnkkcfhjgnfchaaDoorRows.lean that lists a variable, with what it lists TIED to the program's text (the seventh form; the later family's looks); each row that meets fmt, with fmt's text TOLD by the authors' own Lean function (tested against real Go, not proved from fmt's source: count such statements apart). THE CARD IS WHAT COUNTS. Prove the row's statement (the work); the ties are given (YtnkkcfhjgnfchaaDoorTie.lean); close each card by the builder's one call (the guide's Derived/Test/ToyasCard.lean, 'card_holds'). Laid BY PROGRAM, IN A SANDBOX (cutbox-door.mjs). By AI agents, Wed Nov 11 2026. No macro, syntax, notation, axiom, sorry.
-/
import Derived.Test.YtnkkcfhjgnfchaaDoorRows
import GoSem.ClaimSeven
namespace Go.Proofs.YtnkkcfhjgnfchaaDoor
namespace Rows

/-- THE TIED CARD OF 'banyanlaw11.SpaceFills'. -/
def spaceFillsCard : Claim7 := { stood := { row := spaceFillsRow, standIns := [], harness := (true, "bbb1b244a9f71d8eabe52c0329153bebcf99274b5529c3f952633d004de1c69d"), looks := false }, kinds := [], alts := [], laidByText := true, laidKinds := [.data], laidTests := true, laidLooks := .later }
def SpaceFillsCardSaid : Prop := Claim7.holds Tryd.pinned (.plain (OpenSpec.ofChange spaceFillsSpec)) spaceFillsCard

/-- THE TIED CARD OF 'banyanlaw11.SpaceBack'. -/
def spaceBackCard : Claim7 := { stood := { row := spaceBackRow, standIns := [], harness := (true, "bbb1b244a9f71d8eabe52c0329153bebcf99274b5529c3f952633d004de1c69d"), looks := false }, kinds := [], alts := [], laidByText := true, laidKinds := [.data], laidTests := true, laidLooks := .later }
def SpaceBackCardSaid : Prop := Claim7.holds Tryd.pinned (.plain (OpenSpec.ofChange spaceBackSpec)) spaceBackCard

/-- THE TIED CARD OF 'banyanlaw11.SpaceLowest'. -/
def spaceLowestCard : Claim7 := { stood := { row := spaceLowestRow, standIns := [], harness := (true, "bbb1b244a9f71d8eabe52c0329153bebcf99274b5529c3f952633d004de1c69d"), looks := false }, kinds := [], alts := [], laidByText := true, laidKinds := [.data], laidTests := true, laidLooks := .later }
def SpaceLowestCardSaid : Prop := Claim7.holds Tryd.pinned (.plain (OpenSpec.ofChange spaceLowestSpec)) spaceLowestCard

/-- THE TIED CARD OF 'banyanlaw11.SpaceMany'. -/
def spaceManyCard : Claim7 := { stood := { row := spaceManyRow, standIns := [], harness := (true, "bbb1b244a9f71d8eabe52c0329153bebcf99274b5529c3f952633d004de1c69d"), looks := false }, kinds := [], alts := [], laidByText := true, laidKinds := [.data], laidTests := true, laidLooks := .later }
def SpaceManyCardSaid : Prop := Claim7.holds Tryd.pinned (.plain (OpenSpec.ofChange spaceManySpec)) spaceManyCard

/-- THE TIED CARD OF 'banyanlaw11.SpaceSets'. -/
def spaceSetsCard : Claim7 := { stood := { row := spaceSetsRow, standIns := [], harness := (true, "bbb1b244a9f71d8eabe52c0329153bebcf99274b5529c3f952633d004de1c69d"), looks := false }, kinds := [], alts := [], laidByText := true, laidKinds := [.data], laidTests := true, laidLooks := .later }
def SpaceSetsCardSaid : Prop := Claim7.holds Tryd.pinned (.plain (OpenSpec.ofChange spaceSetsSpec)) spaceSetsCard

/-- THE TIED CARD OF 'banyanlaw11.SpaceActs'. -/
def spaceActsCard : Claim7 := { stood := { row := spaceActsRow, standIns := [], harness := (true, "bbb1b244a9f71d8eabe52c0329153bebcf99274b5529c3f952633d004de1c69d"), looks := false }, kinds := [], alts := [], laidByText := true, laidKinds := [.data], laidTests := true, laidLooks := .later }
def SpaceActsCardSaid : Prop := Claim7.holds Tryd.pinned (.plain (OpenSpec.ofChange spaceActsSpec)) spaceActsCard

/-- THE TIED CARD OF 'banyanlaw11.SpaceOwn'. -/
def spaceOwnCard : Claim7 := { stood := { row := spaceOwnRow, standIns := [], harness := (true, "bbb1b244a9f71d8eabe52c0329153bebcf99274b5529c3f952633d004de1c69d"), looks := false }, kinds := [], alts := [], laidByText := true, laidKinds := [.data], laidTests := true, laidLooks := .later }
def SpaceOwnCardSaid : Prop := Claim7.holds Tryd.pinned (.plain (OpenSpec.ofChange spaceOwnSpec)) spaceOwnCard

/-- THE SECOND FORM's CARD OF 'banyanlaw11.SpaceFills'. -/
def spaceFillsUptoCard : Claim7 := { stood := { row := spaceFillsUptoRow, standIns := [], harness := (true, "bbb1b244a9f71d8eabe52c0329153bebcf99274b5529c3f952633d004de1c69d"), looks := false }, kinds := [], alts := [], laidByText := true, laidKinds := [.data], laidTests := true, laidLooks := .later }
def SpaceFillsUptoCardSaid : Prop := Claim7.holds Tryd.pinned (.plain (OpenSpec.upto spaceFillsSpec)) spaceFillsUptoCard

/-- THE SECOND FORM's CARD OF 'banyanlaw11.SpaceBack'. -/
def spaceBackUptoCard : Claim7 := { stood := { row := spaceBackUptoRow, standIns := [], harness := (true, "bbb1b244a9f71d8eabe52c0329153bebcf99274b5529c3f952633d004de1c69d"), looks := false }, kinds := [], alts := [], laidByText := true, laidKinds := [.data], laidTests := true, laidLooks := .later }
def SpaceBackUptoCardSaid : Prop := Claim7.holds Tryd.pinned (.plain (OpenSpec.upto spaceBackSpec)) spaceBackUptoCard

/-- THE SECOND FORM's CARD OF 'banyanlaw11.SpaceLowest'. -/
def spaceLowestUptoCard : Claim7 := { stood := { row := spaceLowestUptoRow, standIns := [], harness := (true, "bbb1b244a9f71d8eabe52c0329153bebcf99274b5529c3f952633d004de1c69d"), looks := false }, kinds := [], alts := [], laidByText := true, laidKinds := [.data], laidTests := true, laidLooks := .later }
def SpaceLowestUptoCardSaid : Prop := Claim7.holds Tryd.pinned (.plain (OpenSpec.upto spaceLowestSpec)) spaceLowestUptoCard

/-- THE SECOND FORM's CARD OF 'banyanlaw11.SpaceMany'. -/
def spaceManyUptoCard : Claim7 := { stood := { row := spaceManyUptoRow, standIns := [], harness := (true, "bbb1b244a9f71d8eabe52c0329153bebcf99274b5529c3f952633d004de1c69d"), looks := false }, kinds := [], alts := [], laidByText := true, laidKinds := [.data], laidTests := true, laidLooks := .later }
def SpaceManyUptoCardSaid : Prop := Claim7.holds Tryd.pinned (.plain (OpenSpec.upto spaceManySpec)) spaceManyUptoCard

/-- THE SECOND FORM's CARD OF 'banyanlaw11.SpaceSets'. -/
def spaceSetsUptoCard : Claim7 := { stood := { row := spaceSetsUptoRow, standIns := [], harness := (true, "bbb1b244a9f71d8eabe52c0329153bebcf99274b5529c3f952633d004de1c69d"), looks := false }, kinds := [], alts := [], laidByText := true, laidKinds := [.data], laidTests := true, laidLooks := .later }
def SpaceSetsUptoCardSaid : Prop := Claim7.holds Tryd.pinned (.plain (OpenSpec.upto spaceSetsSpec)) spaceSetsUptoCard

/-- THE SECOND FORM's CARD OF 'banyanlaw11.SpaceActs'. -/
def spaceActsUptoCard : Claim7 := { stood := { row := spaceActsUptoRow, standIns := [], harness := (true, "bbb1b244a9f71d8eabe52c0329153bebcf99274b5529c3f952633d004de1c69d"), looks := false }, kinds := [], alts := [], laidByText := true, laidKinds := [.data], laidTests := true, laidLooks := .later }
def SpaceActsUptoCardSaid : Prop := Claim7.holds Tryd.pinned (.plain (OpenSpec.upto spaceActsSpec)) spaceActsUptoCard

/-- THE SECOND FORM's CARD OF 'banyanlaw11.SpaceOwn'. -/
def spaceOwnUptoCard : Claim7 := { stood := { row := spaceOwnUptoRow, standIns := [], harness := (true, "bbb1b244a9f71d8eabe52c0329153bebcf99274b5529c3f952633d004de1c69d"), looks := false }, kinds := [], alts := [], laidByText := true, laidKinds := [.data], laidTests := true, laidLooks := .later }
def SpaceOwnUptoCardSaid : Prop := Claim7.holds Tryd.pinned (.plain (OpenSpec.upto spaceOwnSpec)) spaceOwnUptoCard
end Rows
end Go.Proofs.YtnkkcfhjgnfchaaDoor
