/-
  DERIVED. GIVEN WITH THE SEED: THE CARDS: each row of YtikmdhhbamggfaaGreatDoorRows.lean that lists a variable, with what it lists TIED to the program's text (the seventh form; the later family's looks); each row that meets fmt, with fmt's text TOLD by the authors' own Lean function (tested against real Go, not proved from fmt's source: count such statements apart). THE CARD IS WHAT COUNTS. Prove the row's statement (the work); the ties are given (YtikmdhhbamggfaaGreatDoorTie.lean); close each card by the builder's one call (the guide's Derived/Test/ToyasCard.lean, 'card_holds'). Laid BY PROGRAM, IN A SANDBOX (cutbox-door.mjs). By AI agents, Wed Nov 11 2026. No macro, syntax, notation, axiom, sorry.
-/
import Derived.Test.YtikmdhhbamggfaaGreatDoorRows
import GoSem.ClaimSeven
namespace Go.Proofs.YtikmdhhbamggfaaGreatDoor
namespace Rows

/-- THE TIED CARD OF 'umlautlaw8.CollChains'. -/
def collChainsCard : Claim7 := { stood := { row := collChainsRow, standIns := [], harness := (true, "6403613c78d8fe7dc080b3cf8c3625c7544ad5b5dba446b0cd1428c9b4d44ab2"), looks := true }, kinds := [], alts := [], laidByText := true, laidKinds := [.data, .pinned], laidTests := true, laidLooks := .later }
def CollChainsCardSaid : Prop := Claim7.holds Tryz.pinned (.plain (OpenSpec.ofChange collChainsSpec)) collChainsCard

/-- THE TIED CARD OF 'umlautlaw8.CollLevels'. -/
def collLevelsCard : Claim7 := { stood := { row := collLevelsRow, standIns := [], harness := (true, "6403613c78d8fe7dc080b3cf8c3625c7544ad5b5dba446b0cd1428c9b4d44ab2"), looks := true }, kinds := [], alts := [], laidByText := true, laidKinds := [.data, .pinned], laidTests := true, laidLooks := .later }
def CollLevelsCardSaid : Prop := Claim7.holds Tryz.pinned (.plain (OpenSpec.ofChange collLevelsSpec)) collLevelsCard

/-- THE TIED CARD OF 'umlautlaw8.CollTells'. -/
def collTellsCard : Claim7 := { stood := { row := collTellsRow, standIns := [], harness := (true, "6403613c78d8fe7dc080b3cf8c3625c7544ad5b5dba446b0cd1428c9b4d44ab2"), looks := true }, kinds := [], alts := [], laidByText := true, laidKinds := [.data, .pinned], laidTests := true, laidLooks := .later }
def CollTellsCardSaid : Prop := Claim7.holds Tryz.pinned (.plain (OpenSpec.ofChange collTellsSpec)) collTellsCard

/-- THE TIED CARD OF 'umlautlaw9.KeyIs'. -/
def keyIsCard : Claim7 := { stood := { row := keyIsRow, standIns := [], harness := (true, "6403613c78d8fe7dc080b3cf8c3625c7544ad5b5dba446b0cd1428c9b4d44ab2"), looks := true }, kinds := [], alts := [], laidByText := true, laidKinds := [.data, .pinned], laidTests := true, laidLooks := .later }
def KeyIsCardSaid : Prop := Claim7.holds Tryz.pinned (.plain (OpenSpec.ofChange keyIsSpec)) keyIsCard

/-- THE TIED CARD OF 'umlautlaw9.KeyOrders'. -/
def keyOrdersCard : Claim7 := { stood := { row := keyOrdersRow, standIns := [], harness := (true, "6403613c78d8fe7dc080b3cf8c3625c7544ad5b5dba446b0cd1428c9b4d44ab2"), looks := true }, kinds := [], alts := [], laidByText := true, laidKinds := [.data, .pinned], laidTests := true, laidLooks := .later }
def KeyOrdersCardSaid : Prop := Claim7.holds Tryz.pinned (.plain (OpenSpec.ofChange keyOrdersSpec)) keyOrdersCard

/-- THE TIED CARD OF 'umlautlaw16.LikeMatches'. -/
def likeMatchesCard : Claim7 := { stood := { row := likeMatchesRow, standIns := [], harness := (true, "6403613c78d8fe7dc080b3cf8c3625c7544ad5b5dba446b0cd1428c9b4d44ab2"), looks := true }, kinds := [], alts := [], laidByText := true, laidKinds := [.data, .pinned], laidTests := true, laidLooks := .later }
def LikeMatchesCardSaid : Prop := Claim7.holds Tryz.pinned (.plain (OpenSpec.ofChange likeMatchesSpec)) likeMatchesCard

/-- THE TIED CARD OF 'umlautlaw16.LikeRanges'. -/
def likeRangesCard : Claim7 := { stood := { row := likeRangesRow, standIns := [], harness := (true, "6403613c78d8fe7dc080b3cf8c3625c7544ad5b5dba446b0cd1428c9b4d44ab2"), looks := true }, kinds := [], alts := [], laidByText := true, laidKinds := [.data, .pinned], laidTests := true, laidLooks := .later }
def LikeRangesCardSaid : Prop := Claim7.holds Tryz.pinned (.plain (OpenSpec.ofChange likeRangesSpec)) likeRangesCard

/-- THE TIED CARD OF 'umlautlaw7.TailorReads'. -/
def tailorReadsCard : Claim7 := { stood := { row := tailorReadsRow, standIns := [], harness := (true, "6403613c78d8fe7dc080b3cf8c3625c7544ad5b5dba446b0cd1428c9b4d44ab2"), looks := true }, kinds := [], alts := [], laidByText := true, laidKinds := [.data, .pinned], laidTests := true, laidLooks := .later }
def TailorReadsCardSaid : Prop := Claim7.holds Tryz.pinned (.plain (OpenSpec.ofChange tailorReadsSpec)) tailorReadsCard

/-- THE TIED CARD OF 'umlautlaw7.TailorApplies'. -/
def tailorAppliesCard : Claim7 := { stood := { row := tailorAppliesRow, standIns := [], harness := (true, "6403613c78d8fe7dc080b3cf8c3625c7544ad5b5dba446b0cd1428c9b4d44ab2"), looks := true }, kinds := [], alts := [], laidByText := true, laidKinds := [.data, .pinned], laidTests := true, laidLooks := .later }
def TailorAppliesCardSaid : Prop := Claim7.holds Tryz.pinned (.plain (OpenSpec.ofChange tailorAppliesSpec)) tailorAppliesCard

/-- THE TIED CARD OF 'umlautlaw5.TablePuts'. -/
def tablePutsCard : Claim7 := { stood := { row := tablePutsRow, standIns := [], harness := (true, "6403613c78d8fe7dc080b3cf8c3625c7544ad5b5dba446b0cd1428c9b4d44ab2"), looks := true }, kinds := [], alts := [], laidByText := true, laidKinds := [.data, .data, .data, .data, .pinned], laidTests := true, laidLooks := .later }
def TablePutsCardSaid : Prop := Claim7.holds Tryz.pinned (.plain (OpenSpec.ofChange tablePutsSpec)) tablePutsCard

/-- THE TIED CARD OF 'umlautlaw8.TailorSame'. -/
def tailorSameCard : Claim7 := { stood := { row := tailorSameRow, standIns := [], harness := (true, "6403613c78d8fe7dc080b3cf8c3625c7544ad5b5dba446b0cd1428c9b4d44ab2"), looks := true }, kinds := [], alts := [], laidByText := true, laidKinds := [.data, .pinned], laidTests := true, laidLooks := .later }
def TailorSameCardSaid : Prop := Claim7.holds Tryz.pinned (.plain (OpenSpec.ofChange tailorSameSpec)) tailorSameCard

/-- THE TIED CARD OF 'umlautlaw8.TailorPairs'. -/
def tailorPairsCard : Claim7 := { stood := { row := tailorPairsRow, standIns := [], harness := (true, "6403613c78d8fe7dc080b3cf8c3625c7544ad5b5dba446b0cd1428c9b4d44ab2"), looks := true }, kinds := [], alts := [], laidByText := true, laidKinds := [.data, .pinned], laidTests := true, laidLooks := .later }
def TailorPairsCardSaid : Prop := Claim7.holds Tryz.pinned (.plain (OpenSpec.ofChange tailorPairsSpec)) tailorPairsCard

/-- THE SECOND FORM's CARD OF 'umlautlaw8.CollChains'. -/
def collChainsUptoCard : Claim7 := { stood := { row := collChainsUptoRow, standIns := [], harness := (true, "6403613c78d8fe7dc080b3cf8c3625c7544ad5b5dba446b0cd1428c9b4d44ab2"), looks := true }, kinds := [], alts := [], laidByText := true, laidKinds := [.data, .pinned], laidTests := true, laidLooks := .later }
def CollChainsUptoCardSaid : Prop := Claim7.holds Tryz.pinned (.plain (OpenSpec.upto collChainsSpec)) collChainsUptoCard

/-- THE SECOND FORM's CARD OF 'umlautlaw8.CollLevels'. -/
def collLevelsUptoCard : Claim7 := { stood := { row := collLevelsUptoRow, standIns := [], harness := (true, "6403613c78d8fe7dc080b3cf8c3625c7544ad5b5dba446b0cd1428c9b4d44ab2"), looks := true }, kinds := [], alts := [], laidByText := true, laidKinds := [.data, .pinned], laidTests := true, laidLooks := .later }
def CollLevelsUptoCardSaid : Prop := Claim7.holds Tryz.pinned (.plain (OpenSpec.upto collLevelsSpec)) collLevelsUptoCard

/-- THE SECOND FORM's CARD OF 'umlautlaw8.CollTells'. -/
def collTellsUptoCard : Claim7 := { stood := { row := collTellsUptoRow, standIns := [], harness := (true, "6403613c78d8fe7dc080b3cf8c3625c7544ad5b5dba446b0cd1428c9b4d44ab2"), looks := true }, kinds := [], alts := [], laidByText := true, laidKinds := [.data, .pinned], laidTests := true, laidLooks := .later }
def CollTellsUptoCardSaid : Prop := Claim7.holds Tryz.pinned (.plain (OpenSpec.upto collTellsSpec)) collTellsUptoCard

/-- THE SECOND FORM's CARD OF 'umlautlaw9.KeyIs'. -/
def keyIsUptoCard : Claim7 := { stood := { row := keyIsUptoRow, standIns := [], harness := (true, "6403613c78d8fe7dc080b3cf8c3625c7544ad5b5dba446b0cd1428c9b4d44ab2"), looks := true }, kinds := [], alts := [], laidByText := true, laidKinds := [.data, .pinned], laidTests := true, laidLooks := .later }
def KeyIsUptoCardSaid : Prop := Claim7.holds Tryz.pinned (.plain (OpenSpec.upto keyIsSpec)) keyIsUptoCard

/-- THE SECOND FORM's CARD OF 'umlautlaw9.KeyOrders'. -/
def keyOrdersUptoCard : Claim7 := { stood := { row := keyOrdersUptoRow, standIns := [], harness := (true, "6403613c78d8fe7dc080b3cf8c3625c7544ad5b5dba446b0cd1428c9b4d44ab2"), looks := true }, kinds := [], alts := [], laidByText := true, laidKinds := [.data, .pinned], laidTests := true, laidLooks := .later }
def KeyOrdersUptoCardSaid : Prop := Claim7.holds Tryz.pinned (.plain (OpenSpec.upto keyOrdersSpec)) keyOrdersUptoCard

/-- THE SECOND FORM's CARD OF 'umlautlaw16.LikeMatches'. -/
def likeMatchesUptoCard : Claim7 := { stood := { row := likeMatchesUptoRow, standIns := [], harness := (true, "6403613c78d8fe7dc080b3cf8c3625c7544ad5b5dba446b0cd1428c9b4d44ab2"), looks := true }, kinds := [], alts := [], laidByText := true, laidKinds := [.data, .pinned], laidTests := true, laidLooks := .later }
def LikeMatchesUptoCardSaid : Prop := Claim7.holds Tryz.pinned (.plain (OpenSpec.upto likeMatchesSpec)) likeMatchesUptoCard

/-- THE SECOND FORM's CARD OF 'umlautlaw16.LikeRanges'. -/
def likeRangesUptoCard : Claim7 := { stood := { row := likeRangesUptoRow, standIns := [], harness := (true, "6403613c78d8fe7dc080b3cf8c3625c7544ad5b5dba446b0cd1428c9b4d44ab2"), looks := true }, kinds := [], alts := [], laidByText := true, laidKinds := [.data, .pinned], laidTests := true, laidLooks := .later }
def LikeRangesUptoCardSaid : Prop := Claim7.holds Tryz.pinned (.plain (OpenSpec.upto likeRangesSpec)) likeRangesUptoCard

/-- THE SECOND FORM's CARD OF 'umlautlaw7.TailorReads'. -/
def tailorReadsUptoCard : Claim7 := { stood := { row := tailorReadsUptoRow, standIns := [], harness := (true, "6403613c78d8fe7dc080b3cf8c3625c7544ad5b5dba446b0cd1428c9b4d44ab2"), looks := true }, kinds := [], alts := [], laidByText := true, laidKinds := [.data, .pinned], laidTests := true, laidLooks := .later }
def TailorReadsUptoCardSaid : Prop := Claim7.holds Tryz.pinned (.plain (OpenSpec.upto tailorReadsSpec)) tailorReadsUptoCard

/-- THE SECOND FORM's CARD OF 'umlautlaw7.TailorApplies'. -/
def tailorAppliesUptoCard : Claim7 := { stood := { row := tailorAppliesUptoRow, standIns := [], harness := (true, "6403613c78d8fe7dc080b3cf8c3625c7544ad5b5dba446b0cd1428c9b4d44ab2"), looks := true }, kinds := [], alts := [], laidByText := true, laidKinds := [.data, .pinned], laidTests := true, laidLooks := .later }
def TailorAppliesUptoCardSaid : Prop := Claim7.holds Tryz.pinned (.plain (OpenSpec.upto tailorAppliesSpec)) tailorAppliesUptoCard

/-- THE SECOND FORM's CARD OF 'umlautlaw5.TablePuts'. -/
def tablePutsUptoCard : Claim7 := { stood := { row := tablePutsUptoRow, standIns := [], harness := (true, "6403613c78d8fe7dc080b3cf8c3625c7544ad5b5dba446b0cd1428c9b4d44ab2"), looks := true }, kinds := [], alts := [], laidByText := true, laidKinds := [.data, .data, .data, .data, .pinned], laidTests := true, laidLooks := .later }
def TablePutsUptoCardSaid : Prop := Claim7.holds Tryz.pinned (.plain (OpenSpec.upto tablePutsSpec)) tablePutsUptoCard

/-- THE SECOND FORM's CARD OF 'umlautlaw8.TailorSame'. -/
def tailorSameUptoCard : Claim7 := { stood := { row := tailorSameUptoRow, standIns := [], harness := (true, "6403613c78d8fe7dc080b3cf8c3625c7544ad5b5dba446b0cd1428c9b4d44ab2"), looks := true }, kinds := [], alts := [], laidByText := true, laidKinds := [.data, .pinned], laidTests := true, laidLooks := .later }
def TailorSameUptoCardSaid : Prop := Claim7.holds Tryz.pinned (.plain (OpenSpec.upto tailorSameSpec)) tailorSameUptoCard

/-- THE SECOND FORM's CARD OF 'umlautlaw8.TailorPairs'. -/
def tailorPairsUptoCard : Claim7 := { stood := { row := tailorPairsUptoRow, standIns := [], harness := (true, "6403613c78d8fe7dc080b3cf8c3625c7544ad5b5dba446b0cd1428c9b4d44ab2"), looks := true }, kinds := [], alts := [], laidByText := true, laidKinds := [.data, .pinned], laidTests := true, laidLooks := .later }
def TailorPairsUptoCardSaid : Prop := Claim7.holds Tryz.pinned (.plain (OpenSpec.upto tailorPairsSpec)) tailorPairsUptoCard
end Rows
end Go.Proofs.YtikmdhhbamggfaaGreatDoor
