/-
  DERIVED. GIVEN WITH THE SEED: THE CARDS: each row of YtocjlbpehfpdoaaGreatDoorRows.lean that lists a variable, with what it lists TIED to the program's text (the seventh form; the later family's looks); each row that meets fmt, with fmt's text TOLD by the authors' own Lean function (tested against real Go, not proved from fmt's source: count such statements apart). THE CARD IS WHAT COUNTS. Prove the row's statement (the work); the ties are given (YtocjlbpehfpdoaaGreatDoorTie.lean); close each card by the builder's one call (the guide's Derived/Test/ToyasCard.lean, 'card_holds'). Laid BY PROGRAM, IN A SANDBOX (cutbox-door.mjs). By AI agents, Wed Nov 11 2026. No macro, syntax, notation, axiom, sorry.
-/
import Derived.Test.YtocjlbpehfpdoaaGreatDoorRows
import GoSem.ClaimSeven
namespace Go.Proofs.YtocjlbpehfpdoaaGreatDoor
namespace Rows

/-- THE TIED CARD OF 'rubricatorlaw20.PlanHolds'. -/
def planHoldsCard : Claim7 := { stood := { row := planHoldsRow, standIns := [], harness := (true, "5009a6103b1a878e95f77759bf6a476e63db9025f332706c0d0e71e2849af8b4"), looks := true }, kinds := [], alts := [], laidByText := true, laidKinds := [.data, .data, .pinned, .pinned], laidTests := true, laidLooks := .later }
def PlanHoldsCardSaid : Prop := Claim7.holds Tryz.pinned (.plain (OpenSpec.ofChange planHoldsSpec)) planHoldsCard

/-- THE TIED CARD OF 'rubricatorlaw18.PathAlone'. -/
def pathAloneCard : Claim7 := { stood := { row := pathAloneRow, standIns := [], harness := (true, "5009a6103b1a878e95f77759bf6a476e63db9025f332706c0d0e71e2849af8b4"), looks := true }, kinds := [], alts := [], laidByText := true, laidKinds := [.data, .data, .data, .data, .pinned, .pinned], laidTests := true, laidLooks := .later }
def PathAloneCardSaid : Prop := Claim7.holds Tryz.pinned (.plain (OpenSpec.ofChange pathAloneSpec)) pathAloneCard

/-- THE TIED CARD OF 'rubricatorlaw16.BinPuts'. -/
def binPutsCard : Claim7 := { stood := { row := binPutsRow, standIns := [], harness := (true, "5009a6103b1a878e95f77759bf6a476e63db9025f332706c0d0e71e2849af8b4"), looks := true }, kinds := [], alts := [], laidByText := true, laidKinds := [.data, .data, .data, .data, .pinned, .pinned], laidTests := true, laidLooks := .later }
def BinPutsCardSaid : Prop := Claim7.holds Tryz.pinned (.plain (OpenSpec.ofChange binPutsSpec)) binPutsCard

/-- THE TIED CARD OF 'rubricatorlaw16.BinGets'. -/
def binGetsCard : Claim7 := { stood := { row := binGetsRow, standIns := [], harness := (true, "5009a6103b1a878e95f77759bf6a476e63db9025f332706c0d0e71e2849af8b4"), looks := true }, kinds := [], alts := [], laidByText := true, laidKinds := [.data, .data, .data, .data, .pinned, .pinned], laidTests := true, laidLooks := .later }
def BinGetsCardSaid : Prop := Claim7.holds Tryz.pinned (.plain (OpenSpec.ofChange binGetsSpec)) binGetsCard

/-- THE TIED CARD OF 'rubricatorlaw16.BinRight'. -/
def binRightCard : Claim7 := { stood := { row := binRightRow, standIns := [], harness := (true, "5009a6103b1a878e95f77759bf6a476e63db9025f332706c0d0e71e2849af8b4"), looks := true }, kinds := [], alts := [], laidByText := true, laidKinds := [.data, .data, .data, .data, .pinned, .pinned], laidTests := true, laidLooks := .later }
def BinRightCardSaid : Prop := Claim7.holds Tryz.pinned (.plain (OpenSpec.ofChange binRightSpec)) binRightCard

/-- THE TIED CARD OF 'rubricatorlaw16.BinCuts'. -/
def binCutsCard : Claim7 := { stood := { row := binCutsRow, standIns := [], harness := (true, "5009a6103b1a878e95f77759bf6a476e63db9025f332706c0d0e71e2849af8b4"), looks := true }, kinds := [], alts := [], laidByText := true, laidKinds := [.data, .data, .data, .data, .pinned, .pinned], laidTests := true, laidLooks := .later }
def BinCutsCardSaid : Prop := Claim7.holds Tryz.pinned (.plain (OpenSpec.ofChange binCutsSpec)) binCutsCard

/-- THE TIED CARD OF 'rubricatorlaw16.BinAlike'. -/
def binAlikeCard : Claim7 := { stood := { row := binAlikeRow, standIns := [], harness := (true, "5009a6103b1a878e95f77759bf6a476e63db9025f332706c0d0e71e2849af8b4"), looks := true }, kinds := [], alts := [], laidByText := true, laidKinds := [.data, .data, .data, .data, .pinned, .pinned], laidTests := true, laidLooks := .later }
def BinAlikeCardSaid : Prop := Claim7.holds Tryz.pinned (.plain (OpenSpec.ofChange binAlikeSpec)) binAlikeCard

/-- THE TIED CARD OF 'rubricatorlaw21.CatalogOrders'. -/
def catalogOrdersCard : Claim7 := { stood := { row := catalogOrdersRow, standIns := [], harness := (true, "5009a6103b1a878e95f77759bf6a476e63db9025f332706c0d0e71e2849af8b4"), looks := true }, kinds := [], alts := [], laidByText := true, laidKinds := [.data, .data, .pinned, .pinned], laidTests := true, laidLooks := .later }
def CatalogOrdersCardSaid : Prop := Claim7.holds Tryz.pinned (.plain (OpenSpec.ofChange catalogOrdersSpec)) catalogOrdersCard

/-- THE TIED CARD OF 'rubricatorlaw21.CatalogStands'. -/
def catalogStandsCard : Claim7 := { stood := { row := catalogStandsRow, standIns := [], harness := (true, "5009a6103b1a878e95f77759bf6a476e63db9025f332706c0d0e71e2849af8b4"), looks := true }, kinds := [], alts := [], laidByText := true, laidKinds := [.data, .data, .pinned, .pinned], laidTests := true, laidLooks := .later }
def CatalogStandsCardSaid : Prop := Claim7.holds Tryz.pinned (.plain (OpenSpec.ofChange catalogStandsSpec)) catalogStandsCard

/-- THE SECOND FORM's CARD OF 'rubricatorlaw20.PlanHolds'. -/
def planHoldsUptoCard : Claim7 := { stood := { row := planHoldsUptoRow, standIns := [], harness := (true, "5009a6103b1a878e95f77759bf6a476e63db9025f332706c0d0e71e2849af8b4"), looks := true }, kinds := [], alts := [], laidByText := true, laidKinds := [.data, .data, .pinned, .pinned], laidTests := true, laidLooks := .later }
def PlanHoldsUptoCardSaid : Prop := Claim7.holds Tryz.pinned (.plain (OpenSpec.upto planHoldsSpec)) planHoldsUptoCard

/-- THE SECOND FORM's CARD OF 'rubricatorlaw18.PathAlone'. -/
def pathAloneUptoCard : Claim7 := { stood := { row := pathAloneUptoRow, standIns := [], harness := (true, "5009a6103b1a878e95f77759bf6a476e63db9025f332706c0d0e71e2849af8b4"), looks := true }, kinds := [], alts := [], laidByText := true, laidKinds := [.data, .data, .data, .data, .pinned, .pinned], laidTests := true, laidLooks := .later }
def PathAloneUptoCardSaid : Prop := Claim7.holds Tryz.pinned (.plain (OpenSpec.upto pathAloneSpec)) pathAloneUptoCard

/-- THE SECOND FORM's CARD OF 'rubricatorlaw16.BinPuts'. -/
def binPutsUptoCard : Claim7 := { stood := { row := binPutsUptoRow, standIns := [], harness := (true, "5009a6103b1a878e95f77759bf6a476e63db9025f332706c0d0e71e2849af8b4"), looks := true }, kinds := [], alts := [], laidByText := true, laidKinds := [.data, .data, .data, .data, .pinned, .pinned], laidTests := true, laidLooks := .later }
def BinPutsUptoCardSaid : Prop := Claim7.holds Tryz.pinned (.plain (OpenSpec.upto binPutsSpec)) binPutsUptoCard

/-- THE SECOND FORM's CARD OF 'rubricatorlaw16.BinGets'. -/
def binGetsUptoCard : Claim7 := { stood := { row := binGetsUptoRow, standIns := [], harness := (true, "5009a6103b1a878e95f77759bf6a476e63db9025f332706c0d0e71e2849af8b4"), looks := true }, kinds := [], alts := [], laidByText := true, laidKinds := [.data, .data, .data, .data, .pinned, .pinned], laidTests := true, laidLooks := .later }
def BinGetsUptoCardSaid : Prop := Claim7.holds Tryz.pinned (.plain (OpenSpec.upto binGetsSpec)) binGetsUptoCard

/-- THE SECOND FORM's CARD OF 'rubricatorlaw16.BinRight'. -/
def binRightUptoCard : Claim7 := { stood := { row := binRightUptoRow, standIns := [], harness := (true, "5009a6103b1a878e95f77759bf6a476e63db9025f332706c0d0e71e2849af8b4"), looks := true }, kinds := [], alts := [], laidByText := true, laidKinds := [.data, .data, .data, .data, .pinned, .pinned], laidTests := true, laidLooks := .later }
def BinRightUptoCardSaid : Prop := Claim7.holds Tryz.pinned (.plain (OpenSpec.upto binRightSpec)) binRightUptoCard

/-- THE SECOND FORM's CARD OF 'rubricatorlaw16.BinCuts'. -/
def binCutsUptoCard : Claim7 := { stood := { row := binCutsUptoRow, standIns := [], harness := (true, "5009a6103b1a878e95f77759bf6a476e63db9025f332706c0d0e71e2849af8b4"), looks := true }, kinds := [], alts := [], laidByText := true, laidKinds := [.data, .data, .data, .data, .pinned, .pinned], laidTests := true, laidLooks := .later }
def BinCutsUptoCardSaid : Prop := Claim7.holds Tryz.pinned (.plain (OpenSpec.upto binCutsSpec)) binCutsUptoCard

/-- THE SECOND FORM's CARD OF 'rubricatorlaw16.BinAlike'. -/
def binAlikeUptoCard : Claim7 := { stood := { row := binAlikeUptoRow, standIns := [], harness := (true, "5009a6103b1a878e95f77759bf6a476e63db9025f332706c0d0e71e2849af8b4"), looks := true }, kinds := [], alts := [], laidByText := true, laidKinds := [.data, .data, .data, .data, .pinned, .pinned], laidTests := true, laidLooks := .later }
def BinAlikeUptoCardSaid : Prop := Claim7.holds Tryz.pinned (.plain (OpenSpec.upto binAlikeSpec)) binAlikeUptoCard

/-- THE SECOND FORM's CARD OF 'rubricatorlaw21.CatalogOrders'. -/
def catalogOrdersUptoCard : Claim7 := { stood := { row := catalogOrdersUptoRow, standIns := [], harness := (true, "5009a6103b1a878e95f77759bf6a476e63db9025f332706c0d0e71e2849af8b4"), looks := true }, kinds := [], alts := [], laidByText := true, laidKinds := [.data, .data, .pinned, .pinned], laidTests := true, laidLooks := .later }
def CatalogOrdersUptoCardSaid : Prop := Claim7.holds Tryz.pinned (.plain (OpenSpec.upto catalogOrdersSpec)) catalogOrdersUptoCard

/-- THE SECOND FORM's CARD OF 'rubricatorlaw21.CatalogStands'. -/
def catalogStandsUptoCard : Claim7 := { stood := { row := catalogStandsUptoRow, standIns := [], harness := (true, "5009a6103b1a878e95f77759bf6a476e63db9025f332706c0d0e71e2849af8b4"), looks := true }, kinds := [], alts := [], laidByText := true, laidKinds := [.data, .data, .pinned, .pinned], laidTests := true, laidLooks := .later }
def CatalogStandsUptoCardSaid : Prop := Claim7.holds Tryz.pinned (.plain (OpenSpec.upto catalogStandsSpec)) catalogStandsUptoCard
end Rows
end Go.Proofs.YtocjlbpehfpdoaaGreatDoor
