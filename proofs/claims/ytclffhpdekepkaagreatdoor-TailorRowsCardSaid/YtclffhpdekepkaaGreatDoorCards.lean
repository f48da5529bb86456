/-
  DERIVED. GIVEN WITH THE SEED: THE CARDS: each row of YtclffhpdekepkaaGreatDoorRows.lean that lists a variable, with what it lists TIED to the program's text (the seventh form; the later family's looks); each row that meets fmt, with fmt's text TOLD by the authors' own Lean function (tested against real Go, not proved from fmt's source: count such statements apart). THE CARD IS WHAT COUNTS. Prove the row's statement (the work); the ties are given (YtclffhpdekepkaaGreatDoorTie.lean); close each card by the builder's one call (the guide's Derived/Test/ToyasCard.lean, 'card_holds'). Laid BY PROGRAM, IN A SANDBOX (cutbox-door.mjs). By AI agents, Wed Nov 11 2026. No macro, syntax, notation, axiom, sorry.
-/
import Derived.Test.YtclffhpdekepkaaGreatDoorRows
import GoSem.ClaimSeven
namespace Go.Proofs.YtclffhpdekepkaaGreatDoor
namespace Rows

/-- THE TIED CARD OF 'umlautlaw7.TailorRows'. -/
def tailorRowsCard : Claim7 := { stood := { row := tailorRowsRow, standIns := [], harness := (true, "c79c93c381eb482d9dd2c27db0cb118565af0a513b7895ea27c61e0ee4d3c8c1"), looks := true }, kinds := [], alts := [], laidByText := true, laidKinds := [.data, .pinned], laidTests := true, laidLooks := .later }
def TailorRowsCardSaid : Prop := Claim7.holds Tryz.pinned (.plain (OpenSpec.ofChange tailorRowsSpec)) tailorRowsCard

/-- THE TIED CARD OF 'umlautlaw7.TailorFull'. -/
def tailorFullCard : Claim7 := { stood := { row := tailorFullRow, standIns := [], harness := (true, "c79c93c381eb482d9dd2c27db0cb118565af0a513b7895ea27c61e0ee4d3c8c1"), looks := true }, kinds := [], alts := [], laidByText := true, laidKinds := [.data, .pinned], laidTests := true, laidLooks := .later }
def TailorFullCardSaid : Prop := Claim7.holds Tryz.pinned (.plain (OpenSpec.ofChange tailorFullSpec)) tailorFullCard

/-- THE TIED CARD OF 'umlautlaw7.TailorKeeps'. -/
def tailorKeepsCard : Claim7 := { stood := { row := tailorKeepsRow, standIns := [], harness := (true, "c79c93c381eb482d9dd2c27db0cb118565af0a513b7895ea27c61e0ee4d3c8c1"), looks := true }, kinds := [], alts := [], laidByText := true, laidKinds := [.data, .pinned], laidTests := true, laidLooks := .later }
def TailorKeepsCardSaid : Prop := Claim7.holds Tryz.pinned (.plain (OpenSpec.ofChange tailorKeepsSpec)) tailorKeepsCard

/-- THE TIED CARD OF 'umlautlaw7.TailorPlaces'. -/
def tailorPlacesCard : Claim7 := { stood := { row := tailorPlacesRow, standIns := [], harness := (true, "c79c93c381eb482d9dd2c27db0cb118565af0a513b7895ea27c61e0ee4d3c8c1"), looks := true }, kinds := [], alts := [], laidByText := true, laidKinds := [.data, .pinned], laidTests := true, laidLooks := .later }
def TailorPlacesCardSaid : Prop := Claim7.holds Tryz.pinned (.plain (OpenSpec.ofChange tailorPlacesSpec)) tailorPlacesCard

/-- THE TIED CARD OF 'umlautlaw14.KencOrders'. -/
def kencOrdersCard : Claim7 := { stood := { row := kencOrdersRow, standIns := [], harness := (true, "c79c93c381eb482d9dd2c27db0cb118565af0a513b7895ea27c61e0ee4d3c8c1"), looks := true }, kinds := [], alts := [], laidByText := true, laidKinds := [.data, .pinned], laidTests := true, laidLooks := .later }
def KencOrdersCardSaid : Prop := Claim7.holds Tryz.pinned (.plain (OpenSpec.ofChange kencOrdersSpec)) kencOrdersCard

/-- THE TIED CARD OF 'umlautlaw14.KencIs'. -/
def kencIsCard : Claim7 := { stood := { row := kencIsRow, standIns := [], harness := (true, "c79c93c381eb482d9dd2c27db0cb118565af0a513b7895ea27c61e0ee4d3c8c1"), looks := true }, kinds := [], alts := [], laidByText := true, laidKinds := [.data, .pinned], laidTests := true, laidLooks := .later }
def KencIsCardSaid : Prop := Claim7.holds Tryz.pinned (.plain (OpenSpec.ofChange kencIsSpec)) kencIsCard

/-- THE SECOND FORM's CARD OF 'umlautlaw7.TailorRows'. -/
def tailorRowsUptoCard : Claim7 := { stood := { row := tailorRowsUptoRow, standIns := [], harness := (true, "c79c93c381eb482d9dd2c27db0cb118565af0a513b7895ea27c61e0ee4d3c8c1"), looks := true }, kinds := [], alts := [], laidByText := true, laidKinds := [.data, .pinned], laidTests := true, laidLooks := .later }
def TailorRowsUptoCardSaid : Prop := Claim7.holds Tryz.pinned (.plain (OpenSpec.upto tailorRowsSpec)) tailorRowsUptoCard

/-- THE SECOND FORM's CARD OF 'umlautlaw7.TailorFull'. -/
def tailorFullUptoCard : Claim7 := { stood := { row := tailorFullUptoRow, standIns := [], harness := (true, "c79c93c381eb482d9dd2c27db0cb118565af0a513b7895ea27c61e0ee4d3c8c1"), looks := true }, kinds := [], alts := [], laidByText := true, laidKinds := [.data, .pinned], laidTests := true, laidLooks := .later }
def TailorFullUptoCardSaid : Prop := Claim7.holds Tryz.pinned (.plain (OpenSpec.upto tailorFullSpec)) tailorFullUptoCard

/-- THE SECOND FORM's CARD OF 'umlautlaw7.TailorKeeps'. -/
def tailorKeepsUptoCard : Claim7 := { stood := { row := tailorKeepsUptoRow, standIns := [], harness := (true, "c79c93c381eb482d9dd2c27db0cb118565af0a513b7895ea27c61e0ee4d3c8c1"), looks := true }, kinds := [], alts := [], laidByText := true, laidKinds := [.data, .pinned], laidTests := true, laidLooks := .later }
def TailorKeepsUptoCardSaid : Prop := Claim7.holds Tryz.pinned (.plain (OpenSpec.upto tailorKeepsSpec)) tailorKeepsUptoCard

/-- THE SECOND FORM's CARD OF 'umlautlaw7.TailorPlaces'. -/
def tailorPlacesUptoCard : Claim7 := { stood := { row := tailorPlacesUptoRow, standIns := [], harness := (true, "c79c93c381eb482d9dd2c27db0cb118565af0a513b7895ea27c61e0ee4d3c8c1"), looks := true }, kinds := [], alts := [], laidByText := true, laidKinds := [.data, .pinned], laidTests := true, laidLooks := .later }
def TailorPlacesUptoCardSaid : Prop := Claim7.holds Tryz.pinned (.plain (OpenSpec.upto tailorPlacesSpec)) tailorPlacesUptoCard

/-- THE SECOND FORM's CARD OF 'umlautlaw14.KencOrders'. -/
def kencOrdersUptoCard : Claim7 := { stood := { row := kencOrdersUptoRow, standIns := [], harness := (true, "c79c93c381eb482d9dd2c27db0cb118565af0a513b7895ea27c61e0ee4d3c8c1"), looks := true }, kinds := [], alts := [], laidByText := true, laidKinds := [.data, .pinned], laidTests := true, laidLooks := .later }
def KencOrdersUptoCardSaid : Prop := Claim7.holds Tryz.pinned (.plain (OpenSpec.upto kencOrdersSpec)) kencOrdersUptoCard

/-- THE SECOND FORM's CARD OF 'umlautlaw14.KencIs'. -/
def kencIsUptoCard : Claim7 := { stood := { row := kencIsUptoRow, standIns := [], harness := (true, "c79c93c381eb482d9dd2c27db0cb118565af0a513b7895ea27c61e0ee4d3c8c1"), looks := true }, kinds := [], alts := [], laidByText := true, laidKinds := [.data, .pinned], laidTests := true, laidLooks := .later }
def KencIsUptoCardSaid : Prop := Claim7.holds Tryz.pinned (.plain (OpenSpec.upto kencIsSpec)) kencIsUptoCard
end Rows
end Go.Proofs.YtclffhpdekepkaaGreatDoor
