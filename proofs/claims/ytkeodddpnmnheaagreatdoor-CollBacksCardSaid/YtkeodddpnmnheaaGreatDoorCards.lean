/-
  DERIVED. GIVEN WITH THE SEED: THE CARDS: each row of YtkeodddpnmnheaaGreatDoorRows.lean that lists a variable, with what it lists TIED to the program's text (the seventh form; the later family's looks); each row that meets fmt, with fmt's text TOLD by the authors' own Lean function (tested against real Go, not proved from fmt's source: count such statements apart). THE CARD IS WHAT COUNTS. Prove the row's statement (the work); the ties are given (YtkeodddpnmnheaaGreatDoorTie.lean); close each card by the builder's one call (the guide's Derived/Test/ToyasCard.lean, 'card_holds'). Laid BY PROGRAM, IN A SANDBOX (cutbox-door.mjs). By AI agents, Wed Nov 11 2026. No macro, syntax, notation, axiom, sorry.
-/
import Derived.Test.YtkeodddpnmnheaaGreatDoorRows
import GoSem.ClaimSeven
namespace Go.Proofs.YtkeodddpnmnheaaGreatDoor
namespace Rows

/-- THE TIED CARD OF 'umlautlaw8.CollBacks'. -/
def collBacksCard : Claim7 := { stood := { row := collBacksRow, standIns := [], harness := (true, "551fadc6c4a7c4bea5eeb5e2e9c4e15940930b04bb66fe8030f97145a96667e4"), looks := true }, kinds := [], alts := [], laidByText := true, laidKinds := [.data, .pinned], laidTests := true, laidLooks := .later }
def CollBacksCardSaid : Prop := Claim7.holds Tryz.pinned (.plain (OpenSpec.ofChange collBacksSpec)) collBacksCard

/-- THE TIED CARD OF 'umlautlaw8.CollChains'. -/
def collChainsCard : Claim7 := { stood := { row := collChainsRow, standIns := [], harness := (true, "551fadc6c4a7c4bea5eeb5e2e9c4e15940930b04bb66fe8030f97145a96667e4"), looks := true }, kinds := [], alts := [], laidByText := true, laidKinds := [.data, .pinned], laidTests := true, laidLooks := .later }
def CollChainsCardSaid : Prop := Claim7.holds Tryz.pinned (.plain (OpenSpec.ofChange collChainsSpec)) collChainsCard

/-- THE TIED CARD OF 'umlautlaw8.CollLevels'. -/
def collLevelsCard : Claim7 := { stood := { row := collLevelsRow, standIns := [], harness := (true, "551fadc6c4a7c4bea5eeb5e2e9c4e15940930b04bb66fe8030f97145a96667e4"), looks := true }, kinds := [], alts := [], laidByText := true, laidKinds := [.data, .pinned], laidTests := true, laidLooks := .later }
def CollLevelsCardSaid : Prop := Claim7.holds Tryz.pinned (.plain (OpenSpec.ofChange collLevelsSpec)) collLevelsCard

/-- THE TIED CARD OF 'umlautlaw8.CollTells'. -/
def collTellsCard : Claim7 := { stood := { row := collTellsRow, standIns := [], harness := (true, "551fadc6c4a7c4bea5eeb5e2e9c4e15940930b04bb66fe8030f97145a96667e4"), looks := true }, kinds := [], alts := [], laidByText := true, laidKinds := [.data, .pinned], laidTests := true, laidLooks := .later }
def CollTellsCardSaid : Prop := Claim7.holds Tryz.pinned (.plain (OpenSpec.ofChange collTellsSpec)) collTellsCard

/-- THE TIED CARD OF 'umlautlaw9.KeyIs'. -/
def keyIsCard : Claim7 := { stood := { row := keyIsRow, standIns := [], harness := (true, "551fadc6c4a7c4bea5eeb5e2e9c4e15940930b04bb66fe8030f97145a96667e4"), looks := true }, kinds := [], alts := [], laidByText := true, laidKinds := [.data, .pinned], laidTests := true, laidLooks := .later }
def KeyIsCardSaid : Prop := Claim7.holds Tryz.pinned (.plain (OpenSpec.ofChange keyIsSpec)) keyIsCard

/-- THE TIED CARD OF 'umlautlaw9.KeyStops'. -/
def keyStopsCard : Claim7 := { stood := { row := keyStopsRow, standIns := [], harness := (true, "551fadc6c4a7c4bea5eeb5e2e9c4e15940930b04bb66fe8030f97145a96667e4"), looks := true }, kinds := [], alts := [], laidByText := true, laidKinds := [.data, .pinned], laidTests := true, laidLooks := .later }
def KeyStopsCardSaid : Prop := Claim7.holds Tryz.pinned (.plain (OpenSpec.ofChange keyStopsSpec)) keyStopsCard

/-- THE TIED CARD OF 'umlautlaw9.KeyOrders'. -/
def keyOrdersCard : Claim7 := { stood := { row := keyOrdersRow, standIns := [], harness := (true, "551fadc6c4a7c4bea5eeb5e2e9c4e15940930b04bb66fe8030f97145a96667e4"), looks := true }, kinds := [], alts := [], laidByText := true, laidKinds := [.data, .pinned], laidTests := true, laidLooks := .later }
def KeyOrdersCardSaid : Prop := Claim7.holds Tryz.pinned (.plain (OpenSpec.ofChange keyOrdersSpec)) keyOrdersCard

/-- THE TIED CARD OF 'umlautlaw9.KeyBegins'. -/
def keyBeginsCard : Claim7 := { stood := { row := keyBeginsRow, standIns := [], harness := (true, "551fadc6c4a7c4bea5eeb5e2e9c4e15940930b04bb66fe8030f97145a96667e4"), looks := true }, kinds := [], alts := [], laidByText := true, laidKinds := [.data, .pinned], laidTests := true, laidLooks := .later }
def KeyBeginsCardSaid : Prop := Claim7.holds Tryz.pinned (.plain (OpenSpec.ofChange keyBeginsSpec)) keyBeginsCard

/-- THE TIED CARD OF 'umlautlaw16.LikeCounts'. -/
def likeCountsCard : Claim7 := { stood := { row := likeCountsRow, standIns := [], harness := (true, "551fadc6c4a7c4bea5eeb5e2e9c4e15940930b04bb66fe8030f97145a96667e4"), looks := true }, kinds := [], alts := [], laidByText := true, laidKinds := [.data, .pinned], laidTests := true, laidLooks := .later }
def LikeCountsCardSaid : Prop := Claim7.holds Tryz.pinned (.plain (OpenSpec.ofChange likeCountsSpec)) likeCountsCard

/-- THE TIED CARD OF 'umlautlaw16.LikeMatches'. -/
def likeMatchesCard : Claim7 := { stood := { row := likeMatchesRow, standIns := [], harness := (true, "551fadc6c4a7c4bea5eeb5e2e9c4e15940930b04bb66fe8030f97145a96667e4"), looks := true }, kinds := [], alts := [], laidByText := true, laidKinds := [.data, .pinned], laidTests := true, laidLooks := .later }
def LikeMatchesCardSaid : Prop := Claim7.holds Tryz.pinned (.plain (OpenSpec.ofChange likeMatchesSpec)) likeMatchesCard

/-- THE TIED CARD OF 'umlautlaw8.CollSorts'. -/
def collSortsCard : Claim7 := { stood := { row := collSortsRow, standIns := [], harness := (true, "551fadc6c4a7c4bea5eeb5e2e9c4e15940930b04bb66fe8030f97145a96667e4"), looks := true }, kinds := [], alts := [], laidByText := true, laidKinds := [.data, .pinned], laidTests := true, laidLooks := .later }
def CollSortsCardSaid : Prop := Claim7.holds Tryz.pinned (.plain (OpenSpec.ofChange collSortsSpec)) collSortsCard

/-- THE TIED CARD OF 'umlautlaw16.LikeRanges'. -/
def likeRangesCard : Claim7 := { stood := { row := likeRangesRow, standIns := [], harness := (true, "551fadc6c4a7c4bea5eeb5e2e9c4e15940930b04bb66fe8030f97145a96667e4"), looks := true }, kinds := [], alts := [], laidByText := true, laidKinds := [.data, .pinned], laidTests := true, laidLooks := .later }
def LikeRangesCardSaid : Prop := Claim7.holds Tryz.pinned (.plain (OpenSpec.ofChange likeRangesSpec)) likeRangesCard

/-- THE SECOND FORM's CARD OF 'umlautlaw8.CollBacks'. -/
def collBacksUptoCard : Claim7 := { stood := { row := collBacksUptoRow, standIns := [], harness := (true, "551fadc6c4a7c4bea5eeb5e2e9c4e15940930b04bb66fe8030f97145a96667e4"), looks := true }, kinds := [], alts := [], laidByText := true, laidKinds := [.data, .pinned], laidTests := true, laidLooks := .later }
def CollBacksUptoCardSaid : Prop := Claim7.holds Tryz.pinned (.plain (OpenSpec.upto collBacksSpec)) collBacksUptoCard

/-- THE SECOND FORM's CARD OF 'umlautlaw8.CollChains'. -/
def collChainsUptoCard : Claim7 := { stood := { row := collChainsUptoRow, standIns := [], harness := (true, "551fadc6c4a7c4bea5eeb5e2e9c4e15940930b04bb66fe8030f97145a96667e4"), looks := true }, kinds := [], alts := [], laidByText := true, laidKinds := [.data, .pinned], laidTests := true, laidLooks := .later }
def CollChainsUptoCardSaid : Prop := Claim7.holds Tryz.pinned (.plain (OpenSpec.upto collChainsSpec)) collChainsUptoCard

/-- THE SECOND FORM's CARD OF 'umlautlaw8.CollLevels'. -/
def collLevelsUptoCard : Claim7 := { stood := { row := collLevelsUptoRow, standIns := [], harness := (true, "551fadc6c4a7c4bea5eeb5e2e9c4e15940930b04bb66fe8030f97145a96667e4"), looks := true }, kinds := [], alts := [], laidByText := true, laidKinds := [.data, .pinned], laidTests := true, laidLooks := .later }
def CollLevelsUptoCardSaid : Prop := Claim7.holds Tryz.pinned (.plain (OpenSpec.upto collLevelsSpec)) collLevelsUptoCard

/-- THE SECOND FORM's CARD OF 'umlautlaw8.CollTells'. -/
def collTellsUptoCard : Claim7 := { stood := { row := collTellsUptoRow, standIns := [], harness := (true, "551fadc6c4a7c4bea5eeb5e2e9c4e15940930b04bb66fe8030f97145a96667e4"), looks := true }, kinds := [], alts := [], laidByText := true, laidKinds := [.data, .pinned], laidTests := true, laidLooks := .later }
def CollTellsUptoCardSaid : Prop := Claim7.holds Tryz.pinned (.plain (OpenSpec.upto collTellsSpec)) collTellsUptoCard

/-- THE SECOND FORM's CARD OF 'umlautlaw9.KeyIs'. -/
def keyIsUptoCard : Claim7 := { stood := { row := keyIsUptoRow, standIns := [], harness := (true, "551fadc6c4a7c4bea5eeb5e2e9c4e15940930b04bb66fe8030f97145a96667e4"), looks := true }, kinds := [], alts := [], laidByText := true, laidKinds := [.data, .pinned], laidTests := true, laidLooks := .later }
def KeyIsUptoCardSaid : Prop := Claim7.holds Tryz.pinned (.plain (OpenSpec.upto keyIsSpec)) keyIsUptoCard

/-- THE SECOND FORM's CARD OF 'umlautlaw9.KeyStops'. -/
def keyStopsUptoCard : Claim7 := { stood := { row := keyStopsUptoRow, standIns := [], harness := (true, "551fadc6c4a7c4bea5eeb5e2e9c4e15940930b04bb66fe8030f97145a96667e4"), looks := true }, kinds := [], alts := [], laidByText := true, laidKinds := [.data, .pinned], laidTests := true, laidLooks := .later }
def KeyStopsUptoCardSaid : Prop := Claim7.holds Tryz.pinned (.plain (OpenSpec.upto keyStopsSpec)) keyStopsUptoCard

/-- THE SECOND FORM's CARD OF 'umlautlaw9.KeyOrders'. -/
def keyOrdersUptoCard : Claim7 := { stood := { row := keyOrdersUptoRow, standIns := [], harness := (true, "551fadc6c4a7c4bea5eeb5e2e9c4e15940930b04bb66fe8030f97145a96667e4"), looks := true }, kinds := [], alts := [], laidByText := true, laidKinds := [.data, .pinned], laidTests := true, laidLooks := .later }
def KeyOrdersUptoCardSaid : Prop := Claim7.holds Tryz.pinned (.plain (OpenSpec.upto keyOrdersSpec)) keyOrdersUptoCard

/-- THE SECOND FORM's CARD OF 'umlautlaw9.KeyBegins'. -/
def keyBeginsUptoCard : Claim7 := { stood := { row := keyBeginsUptoRow, standIns := [], harness := (true, "551fadc6c4a7c4bea5eeb5e2e9c4e15940930b04bb66fe8030f97145a96667e4"), looks := true }, kinds := [], alts := [], laidByText := true, laidKinds := [.data, .pinned], laidTests := true, laidLooks := .later }
def KeyBeginsUptoCardSaid : Prop := Claim7.holds Tryz.pinned (.plain (OpenSpec.upto keyBeginsSpec)) keyBeginsUptoCard

/-- THE SECOND FORM's CARD OF 'umlautlaw16.LikeCounts'. -/
def likeCountsUptoCard : Claim7 := { stood := { row := likeCountsUptoRow, standIns := [], harness := (true, "551fadc6c4a7c4bea5eeb5e2e9c4e15940930b04bb66fe8030f97145a96667e4"), looks := true }, kinds := [], alts := [], laidByText := true, laidKinds := [.data, .pinned], laidTests := true, laidLooks := .later }
def LikeCountsUptoCardSaid : Prop := Claim7.holds Tryz.pinned (.plain (OpenSpec.upto likeCountsSpec)) likeCountsUptoCard

/-- THE SECOND FORM's CARD OF 'umlautlaw16.LikeMatches'. -/
def likeMatchesUptoCard : Claim7 := { stood := { row := likeMatchesUptoRow, standIns := [], harness := (true, "551fadc6c4a7c4bea5eeb5e2e9c4e15940930b04bb66fe8030f97145a96667e4"), looks := true }, kinds := [], alts := [], laidByText := true, laidKinds := [.data, .pinned], laidTests := true, laidLooks := .later }
def LikeMatchesUptoCardSaid : Prop := Claim7.holds Tryz.pinned (.plain (OpenSpec.upto likeMatchesSpec)) likeMatchesUptoCard

/-- THE SECOND FORM's CARD OF 'umlautlaw8.CollSorts'. -/
def collSortsUptoCard : Claim7 := { stood := { row := collSortsUptoRow, standIns := [], harness := (true, "551fadc6c4a7c4bea5eeb5e2e9c4e15940930b04bb66fe8030f97145a96667e4"), looks := true }, kinds := [], alts := [], laidByText := true, laidKinds := [.data, .pinned], laidTests := true, laidLooks := .later }
def CollSortsUptoCardSaid : Prop := Claim7.holds Tryz.pinned (.plain (OpenSpec.upto collSortsSpec)) collSortsUptoCard

/-- THE SECOND FORM's CARD OF 'umlautlaw16.LikeRanges'. -/
def likeRangesUptoCard : Claim7 := { stood := { row := likeRangesUptoRow, standIns := [], harness := (true, "551fadc6c4a7c4bea5eeb5e2e9c4e15940930b04bb66fe8030f97145a96667e4"), looks := true }, kinds := [], alts := [], laidByText := true, laidKinds := [.data, .pinned], laidTests := true, laidLooks := .later }
def LikeRangesUptoCardSaid : Prop := Claim7.holds Tryz.pinned (.plain (OpenSpec.upto likeRangesSpec)) likeRangesUptoCard
end Rows
end Go.Proofs.YtkeodddpnmnheaaGreatDoor
