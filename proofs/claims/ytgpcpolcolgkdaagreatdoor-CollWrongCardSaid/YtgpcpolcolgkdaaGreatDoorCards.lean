/-
  DERIVED. GIVEN WITH THE SEED: THE CARDS: each row of YtgpcpolcolgkdaaGreatDoorRows.lean that lists a variable, with what it lists TIED to the program's text (the seventh form; the later family's looks); each row that meets fmt, with fmt's text TOLD by the authors' own Lean function (tested against real Go, not proved from fmt's source: count such statements apart). THE CARD IS WHAT COUNTS. Prove the row's statement (the work); the ties are given (YtgpcpolcolgkdaaGreatDoorTie.lean); close each card by the builder's one call (the guide's Derived/Test/ToyasCard.lean, 'card_holds'). Laid BY PROGRAM, IN A SANDBOX (cutbox-door.mjs). By AI agents, Wed Nov 11 2026. No macro, syntax, notation, axiom, sorry.
-/
import Derived.Test.YtgpcpolcolgkdaaGreatDoorRows
import GoSem.ClaimSeven
namespace Go.Proofs.YtgpcpolcolgkdaaGreatDoor
namespace Rows

/-- THE TIED CARD OF 'umlautlaw8.CollShifts'. -/
def collShiftsCard : Claim7 := { stood := { row := collShiftsRow, standIns := [], harness := (true, "d1896514abece5fcb12168544cfdcb433c766fe9fea409d522f1f8e0032618fe"), looks := true }, kinds := [], alts := [], laidByText := true, laidKinds := [.data, .pinned], laidTests := true, laidLooks := .later }
def CollShiftsCardSaid : Prop := Claim7.holds Tryz.pinned (.plain (OpenSpec.ofChange collShiftsSpec)) collShiftsCard

/-- THE TIED CARD OF 'umlautlaw8.CollBacks'. -/
def collBacksCard : Claim7 := { stood := { row := collBacksRow, standIns := [], harness := (true, "d1896514abece5fcb12168544cfdcb433c766fe9fea409d522f1f8e0032618fe"), looks := true }, kinds := [], alts := [], laidByText := true, laidKinds := [.data, .pinned], laidTests := true, laidLooks := .later }
def CollBacksCardSaid : Prop := Claim7.holds Tryz.pinned (.plain (OpenSpec.ofChange collBacksSpec)) collBacksCard

/-- THE TIED CARD OF 'umlautlaw8.CollCases'. -/
def collCasesCard : Claim7 := { stood := { row := collCasesRow, standIns := [], harness := (true, "d1896514abece5fcb12168544cfdcb433c766fe9fea409d522f1f8e0032618fe"), looks := true }, kinds := [], alts := [], laidByText := true, laidKinds := [.data, .pinned], laidTests := true, laidLooks := .later }
def CollCasesCardSaid : Prop := Claim7.holds Tryz.pinned (.plain (OpenSpec.ofChange collCasesSpec)) collCasesCard

/-- THE TIED CARD OF 'umlautlaw8.CollChains'. -/
def collChainsCard : Claim7 := { stood := { row := collChainsRow, standIns := [], harness := (true, "d1896514abece5fcb12168544cfdcb433c766fe9fea409d522f1f8e0032618fe"), looks := true }, kinds := [], alts := [], laidByText := true, laidKinds := [.data, .pinned], laidTests := true, laidLooks := .later }
def CollChainsCardSaid : Prop := Claim7.holds Tryz.pinned (.plain (OpenSpec.ofChange collChainsSpec)) collChainsCard

/-- THE TIED CARD OF 'umlautlaw8.CollLevels'. -/
def collLevelsCard : Claim7 := { stood := { row := collLevelsRow, standIns := [], harness := (true, "d1896514abece5fcb12168544cfdcb433c766fe9fea409d522f1f8e0032618fe"), looks := true }, kinds := [], alts := [], laidByText := true, laidKinds := [.data, .pinned], laidTests := true, laidLooks := .later }
def CollLevelsCardSaid : Prop := Claim7.holds Tryz.pinned (.plain (OpenSpec.ofChange collLevelsSpec)) collLevelsCard

/-- THE TIED CARD OF 'umlautlaw8.CollTells'. -/
def collTellsCard : Claim7 := { stood := { row := collTellsRow, standIns := [], harness := (true, "d1896514abece5fcb12168544cfdcb433c766fe9fea409d522f1f8e0032618fe"), looks := true }, kinds := [], alts := [], laidByText := true, laidKinds := [.data, .pinned], laidTests := true, laidLooks := .later }
def CollTellsCardSaid : Prop := Claim7.holds Tryz.pinned (.plain (OpenSpec.ofChange collTellsSpec)) collTellsCard

/-- THE TIED CARD OF 'umlautlaw8.CollWrong'. -/
def collWrongCard : Claim7 := { stood := { row := collWrongRow, standIns := [], harness := (true, "d1896514abece5fcb12168544cfdcb433c766fe9fea409d522f1f8e0032618fe"), looks := true }, kinds := [], alts := [], laidByText := true, laidKinds := [.data, .pinned], laidTests := true, laidLooks := .later }
def CollWrongCardSaid : Prop := Claim7.holds Tryz.pinned (.plain (OpenSpec.ofChange collWrongSpec)) collWrongCard

/-- THE TIED CARD OF 'umlautlaw9.KeyIs'. -/
def keyIsCard : Claim7 := { stood := { row := keyIsRow, standIns := [], harness := (true, "d1896514abece5fcb12168544cfdcb433c766fe9fea409d522f1f8e0032618fe"), looks := true }, kinds := [], alts := [], laidByText := true, laidKinds := [.data, .pinned], laidTests := true, laidLooks := .later }
def KeyIsCardSaid : Prop := Claim7.holds Tryz.pinned (.plain (OpenSpec.ofChange keyIsSpec)) keyIsCard

/-- THE TIED CARD OF 'umlautlaw9.KeyStops'. -/
def keyStopsCard : Claim7 := { stood := { row := keyStopsRow, standIns := [], harness := (true, "d1896514abece5fcb12168544cfdcb433c766fe9fea409d522f1f8e0032618fe"), looks := true }, kinds := [], alts := [], laidByText := true, laidKinds := [.data, .pinned], laidTests := true, laidLooks := .later }
def KeyStopsCardSaid : Prop := Claim7.holds Tryz.pinned (.plain (OpenSpec.ofChange keyStopsSpec)) keyStopsCard

/-- THE TIED CARD OF 'umlautlaw9.KeyOrders'. -/
def keyOrdersCard : Claim7 := { stood := { row := keyOrdersRow, standIns := [], harness := (true, "d1896514abece5fcb12168544cfdcb433c766fe9fea409d522f1f8e0032618fe"), looks := true }, kinds := [], alts := [], laidByText := true, laidKinds := [.data, .pinned], laidTests := true, laidLooks := .later }
def KeyOrdersCardSaid : Prop := Claim7.holds Tryz.pinned (.plain (OpenSpec.ofChange keyOrdersSpec)) keyOrdersCard

/-- THE TIED CARD OF 'umlautlaw9.KeyBegins'. -/
def keyBeginsCard : Claim7 := { stood := { row := keyBeginsRow, standIns := [], harness := (true, "d1896514abece5fcb12168544cfdcb433c766fe9fea409d522f1f8e0032618fe"), looks := true }, kinds := [], alts := [], laidByText := true, laidKinds := [.data, .pinned], laidTests := true, laidLooks := .later }
def KeyBeginsCardSaid : Prop := Claim7.holds Tryz.pinned (.plain (OpenSpec.ofChange keyBeginsSpec)) keyBeginsCard

/-- THE TIED CARD OF 'umlautlaw8.CollSorts'. -/
def collSortsCard : Claim7 := { stood := { row := collSortsRow, standIns := [], harness := (true, "d1896514abece5fcb12168544cfdcb433c766fe9fea409d522f1f8e0032618fe"), looks := true }, kinds := [], alts := [], laidByText := true, laidKinds := [.data, .pinned], laidTests := true, laidLooks := .later }
def CollSortsCardSaid : Prop := Claim7.holds Tryz.pinned (.plain (OpenSpec.ofChange collSortsSpec)) collSortsCard

/-- THE SECOND FORM's CARD OF 'umlautlaw8.CollShifts'. -/
def collShiftsUptoCard : Claim7 := { stood := { row := collShiftsUptoRow, standIns := [], harness := (true, "d1896514abece5fcb12168544cfdcb433c766fe9fea409d522f1f8e0032618fe"), looks := true }, kinds := [], alts := [], laidByText := true, laidKinds := [.data, .pinned], laidTests := true, laidLooks := .later }
def CollShiftsUptoCardSaid : Prop := Claim7.holds Tryz.pinned (.plain (OpenSpec.upto collShiftsSpec)) collShiftsUptoCard

/-- THE SECOND FORM's CARD OF 'umlautlaw8.CollBacks'. -/
def collBacksUptoCard : Claim7 := { stood := { row := collBacksUptoRow, standIns := [], harness := (true, "d1896514abece5fcb12168544cfdcb433c766fe9fea409d522f1f8e0032618fe"), looks := true }, kinds := [], alts := [], laidByText := true, laidKinds := [.data, .pinned], laidTests := true, laidLooks := .later }
def CollBacksUptoCardSaid : Prop := Claim7.holds Tryz.pinned (.plain (OpenSpec.upto collBacksSpec)) collBacksUptoCard

/-- THE SECOND FORM's CARD OF 'umlautlaw8.CollCases'. -/
def collCasesUptoCard : Claim7 := { stood := { row := collCasesUptoRow, standIns := [], harness := (true, "d1896514abece5fcb12168544cfdcb433c766fe9fea409d522f1f8e0032618fe"), looks := true }, kinds := [], alts := [], laidByText := true, laidKinds := [.data, .pinned], laidTests := true, laidLooks := .later }
def CollCasesUptoCardSaid : Prop := Claim7.holds Tryz.pinned (.plain (OpenSpec.upto collCasesSpec)) collCasesUptoCard

/-- THE SECOND FORM's CARD OF 'umlautlaw8.CollChains'. -/
def collChainsUptoCard : Claim7 := { stood := { row := collChainsUptoRow, standIns := [], harness := (true, "d1896514abece5fcb12168544cfdcb433c766fe9fea409d522f1f8e0032618fe"), looks := true }, kinds := [], alts := [], laidByText := true, laidKinds := [.data, .pinned], laidTests := true, laidLooks := .later }
def CollChainsUptoCardSaid : Prop := Claim7.holds Tryz.pinned (.plain (OpenSpec.upto collChainsSpec)) collChainsUptoCard

/-- THE SECOND FORM's CARD OF 'umlautlaw8.CollLevels'. -/
def collLevelsUptoCard : Claim7 := { stood := { row := collLevelsUptoRow, standIns := [], harness := (true, "d1896514abece5fcb12168544cfdcb433c766fe9fea409d522f1f8e0032618fe"), looks := true }, kinds := [], alts := [], laidByText := true, laidKinds := [.data, .pinned], laidTests := true, laidLooks := .later }
def CollLevelsUptoCardSaid : Prop := Claim7.holds Tryz.pinned (.plain (OpenSpec.upto collLevelsSpec)) collLevelsUptoCard

/-- THE SECOND FORM's CARD OF 'umlautlaw8.CollTells'. -/
def collTellsUptoCard : Claim7 := { stood := { row := collTellsUptoRow, standIns := [], harness := (true, "d1896514abece5fcb12168544cfdcb433c766fe9fea409d522f1f8e0032618fe"), looks := true }, kinds := [], alts := [], laidByText := true, laidKinds := [.data, .pinned], laidTests := true, laidLooks := .later }
def CollTellsUptoCardSaid : Prop := Claim7.holds Tryz.pinned (.plain (OpenSpec.upto collTellsSpec)) collTellsUptoCard

/-- THE SECOND FORM's CARD OF 'umlautlaw8.CollWrong'. -/
def collWrongUptoCard : Claim7 := { stood := { row := collWrongUptoRow, standIns := [], harness := (true, "d1896514abece5fcb12168544cfdcb433c766fe9fea409d522f1f8e0032618fe"), looks := true }, kinds := [], alts := [], laidByText := true, laidKinds := [.data, .pinned], laidTests := true, laidLooks := .later }
def CollWrongUptoCardSaid : Prop := Claim7.holds Tryz.pinned (.plain (OpenSpec.upto collWrongSpec)) collWrongUptoCard

/-- THE SECOND FORM's CARD OF 'umlautlaw9.KeyIs'. -/
def keyIsUptoCard : Claim7 := { stood := { row := keyIsUptoRow, standIns := [], harness := (true, "d1896514abece5fcb12168544cfdcb433c766fe9fea409d522f1f8e0032618fe"), looks := true }, kinds := [], alts := [], laidByText := true, laidKinds := [.data, .pinned], laidTests := true, laidLooks := .later }
def KeyIsUptoCardSaid : Prop := Claim7.holds Tryz.pinned (.plain (OpenSpec.upto keyIsSpec)) keyIsUptoCard

/-- THE SECOND FORM's CARD OF 'umlautlaw9.KeyStops'. -/
def keyStopsUptoCard : Claim7 := { stood := { row := keyStopsUptoRow, standIns := [], harness := (true, "d1896514abece5fcb12168544cfdcb433c766fe9fea409d522f1f8e0032618fe"), looks := true }, kinds := [], alts := [], laidByText := true, laidKinds := [.data, .pinned], laidTests := true, laidLooks := .later }
def KeyStopsUptoCardSaid : Prop := Claim7.holds Tryz.pinned (.plain (OpenSpec.upto keyStopsSpec)) keyStopsUptoCard

/-- THE SECOND FORM's CARD OF 'umlautlaw9.KeyOrders'. -/
def keyOrdersUptoCard : Claim7 := { stood := { row := keyOrdersUptoRow, standIns := [], harness := (true, "d1896514abece5fcb12168544cfdcb433c766fe9fea409d522f1f8e0032618fe"), looks := true }, kinds := [], alts := [], laidByText := true, laidKinds := [.data, .pinned], laidTests := true, laidLooks := .later }
def KeyOrdersUptoCardSaid : Prop := Claim7.holds Tryz.pinned (.plain (OpenSpec.upto keyOrdersSpec)) keyOrdersUptoCard

/-- THE SECOND FORM's CARD OF 'umlautlaw9.KeyBegins'. -/
def keyBeginsUptoCard : Claim7 := { stood := { row := keyBeginsUptoRow, standIns := [], harness := (true, "d1896514abece5fcb12168544cfdcb433c766fe9fea409d522f1f8e0032618fe"), looks := true }, kinds := [], alts := [], laidByText := true, laidKinds := [.data, .pinned], laidTests := true, laidLooks := .later }
def KeyBeginsUptoCardSaid : Prop := Claim7.holds Tryz.pinned (.plain (OpenSpec.upto keyBeginsSpec)) keyBeginsUptoCard

/-- THE SECOND FORM's CARD OF 'umlautlaw8.CollSorts'. -/
def collSortsUptoCard : Claim7 := { stood := { row := collSortsUptoRow, standIns := [], harness := (true, "d1896514abece5fcb12168544cfdcb433c766fe9fea409d522f1f8e0032618fe"), looks := true }, kinds := [], alts := [], laidByText := true, laidKinds := [.data, .pinned], laidTests := true, laidLooks := .later }
def CollSortsUptoCardSaid : Prop := Claim7.holds Tryz.pinned (.plain (OpenSpec.upto collSortsSpec)) collSortsUptoCard
end Rows
end Go.Proofs.YtgpcpolcolgkdaaGreatDoor
