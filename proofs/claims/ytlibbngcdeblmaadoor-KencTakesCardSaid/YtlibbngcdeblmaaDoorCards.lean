/-
  DERIVED. GIVEN WITH THE SEED: THE CARDS: each row of YtlibbngcdeblmaaDoorRows.lean that lists a variable, with what it lists TIED to the program's text (the seventh form; the later family's looks); each row that meets fmt, with fmt's text TOLD by the authors' own Lean function (tested against real Go, not proved from fmt's source: count such statements apart). THE CARD IS WHAT COUNTS. Prove the row's statement (the work); the ties are given (YtlibbngcdeblmaaDoorTie.lean); close each card by the builder's one call (the guide's Derived/Test/ToyasCard.lean, 'card_holds'). Laid BY PROGRAM, IN A SANDBOX (cutbox-door.mjs). By AI agents, Wed Nov 11 2026. No macro, syntax, notation, axiom, sorry.
-/
import Derived.Test.YtlibbngcdeblmaaDoorRows
import GoSem.ClaimSeven
namespace Go.Proofs.YtlibbngcdeblmaaDoor
namespace Rows

/-- THE TIED CARD OF 'umlautlaw14.KencRows'. -/
def kencRowsCard : Claim7 := { stood := { row := kencRowsRow, standIns := [], harness := (true, "bfe314c7cc9663dd4e429984b3c95fcfc20051b4199089b945da4f588c83d5af"), looks := false }, kinds := [], alts := [], laidByText := true, laidKinds := [.data, .pinned], laidTests := true, laidLooks := .later }
def KencRowsCardSaid : Prop := Claim7.holds Tryd.pinned (.plain (OpenSpec.ofChange kencRowsSpec)) kencRowsCard

/-- THE TIED CARD OF 'umlautlaw14.KencEscapes'. -/
def kencEscapesCard : Claim7 := { stood := { row := kencEscapesRow, standIns := [], harness := (true, "bfe314c7cc9663dd4e429984b3c95fcfc20051b4199089b945da4f588c83d5af"), looks := false }, kinds := [], alts := [], laidByText := true, laidKinds := [.data, .pinned], laidTests := true, laidLooks := .later }
def KencEscapesCardSaid : Prop := Claim7.holds Tryd.pinned (.plain (OpenSpec.ofChange kencEscapesSpec)) kencEscapesCard

/-- THE TIED CARD OF 'umlautlaw14.KencTakes'. -/
def kencTakesCard : Claim7 := { stood := { row := kencTakesRow, standIns := [], harness := (true, "bfe314c7cc9663dd4e429984b3c95fcfc20051b4199089b945da4f588c83d5af"), looks := false }, kinds := [], alts := [], laidByText := true, laidKinds := [.data, .pinned], laidTests := true, laidLooks := .later }
def KencTakesCardSaid : Prop := Claim7.holds Tryd.pinned (.plain (OpenSpec.ofChange kencTakesSpec)) kencTakesCard

/-- THE SECOND FORM's CARD OF 'umlautlaw14.KencRows'. -/
def kencRowsUptoCard : Claim7 := { stood := { row := kencRowsUptoRow, standIns := [], harness := (true, "bfe314c7cc9663dd4e429984b3c95fcfc20051b4199089b945da4f588c83d5af"), looks := false }, kinds := [], alts := [], laidByText := true, laidKinds := [.data, .pinned], laidTests := true, laidLooks := .later }
def KencRowsUptoCardSaid : Prop := Claim7.holds Tryd.pinned (.plain (OpenSpec.upto kencRowsSpec)) kencRowsUptoCard

/-- THE SECOND FORM's CARD OF 'umlautlaw14.KencEscapes'. -/
def kencEscapesUptoCard : Claim7 := { stood := { row := kencEscapesUptoRow, standIns := [], harness := (true, "bfe314c7cc9663dd4e429984b3c95fcfc20051b4199089b945da4f588c83d5af"), looks := false }, kinds := [], alts := [], laidByText := true, laidKinds := [.data, .pinned], laidTests := true, laidLooks := .later }
def KencEscapesUptoCardSaid : Prop := Claim7.holds Tryd.pinned (.plain (OpenSpec.upto kencEscapesSpec)) kencEscapesUptoCard

/-- THE SECOND FORM's CARD OF 'umlautlaw14.KencTakes'. -/
def kencTakesUptoCard : Claim7 := { stood := { row := kencTakesUptoRow, standIns := [], harness := (true, "bfe314c7cc9663dd4e429984b3c95fcfc20051b4199089b945da4f588c83d5af"), looks := false }, kinds := [], alts := [], laidByText := true, laidKinds := [.data, .pinned], laidTests := true, laidLooks := .later }
def KencTakesUptoCardSaid : Prop := Claim7.holds Tryd.pinned (.plain (OpenSpec.upto kencTakesSpec)) kencTakesUptoCard
end Rows
end Go.Proofs.YtlibbngcdeblmaaDoor
