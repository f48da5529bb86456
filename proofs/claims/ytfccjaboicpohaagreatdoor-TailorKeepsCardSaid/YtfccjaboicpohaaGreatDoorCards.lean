/-
  DERIVED. GIVEN WITH THE SEED: THE CARDS: each row of YtfccjaboicpohaaGreatDoorRows.lean that lists a variable, with what it lists TIED to the program's text (the seventh form; the later family's looks); each row that meets fmt, with fmt's text TOLD by the authors' own Lean function (tested against real Go, not proved from fmt's source: count such statements apart). THE CARD IS WHAT COUNTS. Prove the row's statement (the work); the ties are given (YtfccjaboicpohaaGreatDoorTie.lean); close each card by the builder's one call (the guide's Derived/Test/ToyasCard.lean, 'card_holds'). Laid BY PROGRAM, IN A SANDBOX (cutbox-door.mjs). By AI agents, Wed Nov 11 2026. No macro, syntax, notation, axiom, sorry.
-/
import Derived.Test.YtfccjaboicpohaaGreatDoorRows
import GoSem.ClaimSeven
namespace Go.Proofs.YtfccjaboicpohaaGreatDoor
namespace Rows

/-- THE TIED CARD OF 'umlautlaw7.TailorApplies'. -/
def tailorAppliesCard : Claim7 := { stood := { row := tailorAppliesRow, standIns := [], harness := (true, "bab25c814afd485997207453e9c0387fec86d3c8fcd6eb5fbfb128da0a345178"), looks := true }, kinds := [], alts := [], laidByText := true, laidKinds := [.data, .pinned], laidTests := true, laidLooks := .later }
def TailorAppliesCardSaid : Prop := Claim7.holds Tryz.pinned (.plain (OpenSpec.ofChange tailorAppliesSpec)) tailorAppliesCard

/-- THE TIED CARD OF 'umlautlaw7.TailorKeeps'. -/
def tailorKeepsCard : Claim7 := { stood := { row := tailorKeepsRow, standIns := [], harness := (true, "bab25c814afd485997207453e9c0387fec86d3c8fcd6eb5fbfb128da0a345178"), looks := true }, kinds := [], alts := [], laidByText := true, laidKinds := [.data, .pinned], laidTests := true, laidLooks := .later }
def TailorKeepsCardSaid : Prop := Claim7.holds Tryz.pinned (.plain (OpenSpec.ofChange tailorKeepsSpec)) tailorKeepsCard

/-- THE TIED CARD OF 'umlautlaw5.TablePuts'. -/
def tablePutsCard : Claim7 := { stood := { row := tablePutsRow, standIns := [], harness := (true, "bab25c814afd485997207453e9c0387fec86d3c8fcd6eb5fbfb128da0a345178"), looks := true }, kinds := [], alts := [], laidByText := true, laidKinds := [.data, .data, .data, .data, .pinned], laidTests := true, laidLooks := .later }
def TablePutsCardSaid : Prop := Claim7.holds Tryz.pinned (.plain (OpenSpec.ofChange tablePutsSpec)) tablePutsCard

/-- THE TIED CARD OF 'umlautlaw8.CollSorts'. -/
def collSortsCard : Claim7 := { stood := { row := collSortsRow, standIns := [], harness := (true, "bab25c814afd485997207453e9c0387fec86d3c8fcd6eb5fbfb128da0a345178"), looks := true }, kinds := [], alts := [], laidByText := true, laidKinds := [.data, .pinned], laidTests := true, laidLooks := .later }
def CollSortsCardSaid : Prop := Claim7.holds Tryz.pinned (.plain (OpenSpec.ofChange collSortsSpec)) collSortsCard

/-- THE TIED CARD OF 'umlautlaw14.KencOrders'. -/
def kencOrdersCard : Claim7 := { stood := { row := kencOrdersRow, standIns := [], harness := (true, "bab25c814afd485997207453e9c0387fec86d3c8fcd6eb5fbfb128da0a345178"), looks := true }, kinds := [], alts := [], laidByText := true, laidKinds := [.data, .pinned], laidTests := true, laidLooks := .later }
def KencOrdersCardSaid : Prop := Claim7.holds Tryz.pinned (.plain (OpenSpec.ofChange kencOrdersSpec)) kencOrdersCard

/-- THE TIED CARD OF 'umlautlaw14.KencIs'. -/
def kencIsCard : Claim7 := { stood := { row := kencIsRow, standIns := [], harness := (true, "bab25c814afd485997207453e9c0387fec86d3c8fcd6eb5fbfb128da0a345178"), looks := true }, kinds := [], alts := [], laidByText := true, laidKinds := [.data, .pinned], laidTests := true, laidLooks := .later }
def KencIsCardSaid : Prop := Claim7.holds Tryz.pinned (.plain (OpenSpec.ofChange kencIsSpec)) kencIsCard

/-- THE SECOND FORM's CARD OF 'umlautlaw7.TailorApplies'. -/
def tailorAppliesUptoCard : Claim7 := { stood := { row := tailorAppliesUptoRow, standIns := [], harness := (true, "bab25c814afd485997207453e9c0387fec86d3c8fcd6eb5fbfb128da0a345178"), looks := true }, kinds := [], alts := [], laidByText := true, laidKinds := [.data, .pinned], laidTests := true, laidLooks := .later }
def TailorAppliesUptoCardSaid : Prop := Claim7.holds Tryz.pinned (.plain (OpenSpec.upto tailorAppliesSpec)) tailorAppliesUptoCard

/-- THE SECOND FORM's CARD OF 'umlautlaw7.TailorKeeps'. -/
def tailorKeepsUptoCard : Claim7 := { stood := { row := tailorKeepsUptoRow, standIns := [], harness := (true, "bab25c814afd485997207453e9c0387fec86d3c8fcd6eb5fbfb128da0a345178"), looks := true }, kinds := [], alts := [], laidByText := true, laidKinds := [.data, .pinned], laidTests := true, laidLooks := .later }
def TailorKeepsUptoCardSaid : Prop := Claim7.holds Tryz.pinned (.plain (OpenSpec.upto tailorKeepsSpec)) tailorKeepsUptoCard

/-- THE SECOND FORM's CARD OF 'umlautlaw5.TablePuts'. -/
def tablePutsUptoCard : Claim7 := { stood := { row := tablePutsUptoRow, standIns := [], harness := (true, "bab25c814afd485997207453e9c0387fec86d3c8fcd6eb5fbfb128da0a345178"), looks := true }, kinds := [], alts := [], laidByText := true, laidKinds := [.data, .data, .data, .data, .pinned], laidTests := true, laidLooks := .later }
def TablePutsUptoCardSaid : Prop := Claim7.holds Tryz.pinned (.plain (OpenSpec.upto tablePutsSpec)) tablePutsUptoCard

/-- THE SECOND FORM's CARD OF 'umlautlaw8.CollSorts'. -/
def collSortsUptoCard : Claim7 := { stood := { row := collSortsUptoRow, standIns := [], harness := (true, "bab25c814afd485997207453e9c0387fec86d3c8fcd6eb5fbfb128da0a345178"), looks := true }, kinds := [], alts := [], laidByText := true, laidKinds := [.data, .pinned], laidTests := true, laidLooks := .later }
def CollSortsUptoCardSaid : Prop := Claim7.holds Tryz.pinned (.plain (OpenSpec.upto collSortsSpec)) collSortsUptoCard

/-- THE SECOND FORM's CARD OF 'umlautlaw14.KencOrders'. -/
def kencOrdersUptoCard : Claim7 := { stood := { row := kencOrdersUptoRow, standIns := [], harness := (true, "bab25c814afd485997207453e9c0387fec86d3c8fcd6eb5fbfb128da0a345178"), looks := true }, kinds := [], alts := [], laidByText := true, laidKinds := [.data, .pinned], laidTests := true, laidLooks := .later }
def KencOrdersUptoCardSaid : Prop := Claim7.holds Tryz.pinned (.plain (OpenSpec.upto kencOrdersSpec)) kencOrdersUptoCard

/-- THE SECOND FORM's CARD OF 'umlautlaw14.KencIs'. -/
def kencIsUptoCard : Claim7 := { stood := { row := kencIsUptoRow, standIns := [], harness := (true, "bab25c814afd485997207453e9c0387fec86d3c8fcd6eb5fbfb128da0a345178"), looks := true }, kinds := [], alts := [], laidByText := true, laidKinds := [.data, .pinned], laidTests := true, laidLooks := .later }
def KencIsUptoCardSaid : Prop := Claim7.holds Tryz.pinned (.plain (OpenSpec.upto kencIsSpec)) kencIsUptoCard
end Rows
end Go.Proofs.YtfccjaboicpohaaGreatDoor
