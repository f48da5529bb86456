/-
  DERIVED. GIVEN WITH THE SEED: THE CARDS: each row of YtmnkinaaoifpeaaGreatDoorRows.lean that lists a variable, with what it lists TIED to the program's text (the seventh form; the later family's looks); each row that meets fmt, with fmt's text TOLD by the authors' own Lean function (tested against real Go, not proved from fmt's source: count such statements apart). THE CARD IS WHAT COUNTS. Prove the row's statement (the work); the ties are given (YtmnkinaaoifpeaaGreatDoorTie.lean); close each card by the builder's one call (the guide's Derived/Test/ToyasCard.lean, 'card_holds'). Laid BY PROGRAM, IN A SANDBOX (cutbox-door.mjs). By AI agents, Wed Nov 11 2026. No macro, syntax, notation, axiom, sorry.
-/
import Derived.Test.YtmnkinaaoifpeaaGreatDoorRows
import GoSem.ClaimSeven
namespace Go.Proofs.YtmnkinaaoifpeaaGreatDoor
namespace Rows

/-- THE TIED CARD OF 'umlautlaw19.StoreNumbers'. -/
def storeNumbersCard : Claim7 := { stood := { row := storeNumbersRow, standIns := [], harness := (true, "9d48c6c9f12ca107906d47b7a0f1aa96caabc65eadcee48a036e9cef64acb9f6"), looks := true }, kinds := [], alts := [], laidByText := true, laidKinds := [.data, .pinned], laidTests := true, laidLooks := .later }
def StoreNumbersCardSaid : Prop := Claim7.holds Tryz.pinned (.plain (OpenSpec.ofChange storeNumbersSpec)) storeNumbersCard

/-- THE TIED CARD OF 'umlautlaw19.StoreSwaps'. -/
def storeSwapsCard : Claim7 := { stood := { row := storeSwapsRow, standIns := [], harness := (true, "9d48c6c9f12ca107906d47b7a0f1aa96caabc65eadcee48a036e9cef64acb9f6"), looks := true }, kinds := [], alts := [], laidByText := true, laidKinds := [.data, .pinned], laidTests := true, laidLooks := .later }
def StoreSwapsCardSaid : Prop := Claim7.holds Tryz.pinned (.plain (OpenSpec.ofChange storeSwapsSpec)) storeSwapsCard

/-- THE TIED CARD OF 'umlautlaw19.StoreNames'. -/
def storeNamesCard : Claim7 := { stood := { row := storeNamesRow, standIns := [], harness := (true, "9d48c6c9f12ca107906d47b7a0f1aa96caabc65eadcee48a036e9cef64acb9f6"), looks := true }, kinds := [], alts := [], laidByText := true, laidKinds := [.data, .pinned], laidTests := true, laidLooks := .later }
def StoreNamesCardSaid : Prop := Claim7.holds Tryz.pinned (.plain (OpenSpec.ofChange storeNamesSpec)) storeNamesCard

/-- THE SECOND FORM's CARD OF 'umlautlaw19.StoreNumbers'. -/
def storeNumbersUptoCard : Claim7 := { stood := { row := storeNumbersUptoRow, standIns := [], harness := (true, "9d48c6c9f12ca107906d47b7a0f1aa96caabc65eadcee48a036e9cef64acb9f6"), looks := true }, kinds := [], alts := [], laidByText := true, laidKinds := [.data, .pinned], laidTests := true, laidLooks := .later }
def StoreNumbersUptoCardSaid : Prop := Claim7.holds Tryz.pinned (.plain (OpenSpec.upto storeNumbersSpec)) storeNumbersUptoCard

/-- THE SECOND FORM's CARD OF 'umlautlaw19.StoreSwaps'. -/
def storeSwapsUptoCard : Claim7 := { stood := { row := storeSwapsUptoRow, standIns := [], harness := (true, "9d48c6c9f12ca107906d47b7a0f1aa96caabc65eadcee48a036e9cef64acb9f6"), looks := true }, kinds := [], alts := [], laidByText := true, laidKinds := [.data, .pinned], laidTests := true, laidLooks := .later }
def StoreSwapsUptoCardSaid : Prop := Claim7.holds Tryz.pinned (.plain (OpenSpec.upto storeSwapsSpec)) storeSwapsUptoCard

/-- THE SECOND FORM's CARD OF 'umlautlaw19.StoreNames'. -/
def storeNamesUptoCard : Claim7 := { stood := { row := storeNamesUptoRow, standIns := [], harness := (true, "9d48c6c9f12ca107906d47b7a0f1aa96caabc65eadcee48a036e9cef64acb9f6"), looks := true }, kinds := [], alts := [], laidByText := true, laidKinds := [.data, .pinned], laidTests := true, laidLooks := .later }
def StoreNamesUptoCardSaid : Prop := Claim7.holds Tryz.pinned (.plain (OpenSpec.upto storeNamesSpec)) storeNamesUptoCard
end Rows
end Go.Proofs.YtmnkinaaoifpeaaGreatDoor
