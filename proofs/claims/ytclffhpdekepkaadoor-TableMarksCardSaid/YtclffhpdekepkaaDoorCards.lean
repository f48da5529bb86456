/-
  DERIVED. GIVEN WITH THE SEED: THE CARDS: each row of YtclffhpdekepkaaDoorRows.lean that lists a variable, with what it lists TIED to the program's text (the seventh form; the later family's looks); each row that meets fmt, with fmt's text TOLD by the authors' own Lean function (tested against real Go, not proved from fmt's source: count such statements apart). THE CARD IS WHAT COUNTS. Prove the row's statement (the work); the ties are given (YtclffhpdekepkaaDoorTie.lean); close each card by the builder's one call (the guide's Derived/Test/ToyasCard.lean, 'card_holds'). Laid BY PROGRAM, IN A SANDBOX (cutbox-door.mjs). By AI agents, Wed Nov 11 2026. No macro, syntax, notation, axiom, sorry.
-/
import Derived.Test.YtclffhpdekepkaaDoorRows
import GoSem.ClaimSeven
namespace Go.Proofs.YtclffhpdekepkaaDoor
namespace Rows

/-- THE TIED CARD OF 'umlautlaw5.TableMarks'. -/
def tableMarksCard : Claim7 := { stood := { row := tableMarksRow, standIns := [], harness := (true, "14c88159f4c81cc6c956c59a51306013ef95d5f4b834b22a9bc1c59762b93dbd"), looks := false }, kinds := [], alts := [], laidByText := true, laidKinds := [.data, .data, .data, .data, .pinned], laidTests := true, laidLooks := .later }
def TableMarksCardSaid : Prop := Claim7.holds Tryd.pinned (.plain (OpenSpec.ofChange tableMarksSpec)) tableMarksCard

/-- THE SECOND FORM's CARD OF 'umlautlaw5.TableMarks'. -/
def tableMarksUptoCard : Claim7 := { stood := { row := tableMarksUptoRow, standIns := [], harness := (true, "14c88159f4c81cc6c956c59a51306013ef95d5f4b834b22a9bc1c59762b93dbd"), looks := false }, kinds := [], alts := [], laidByText := true, laidKinds := [.data, .data, .data, .data, .pinned], laidTests := true, laidLooks := .later }
def TableMarksUptoCardSaid : Prop := Claim7.holds Tryd.pinned (.plain (OpenSpec.upto tableMarksSpec)) tableMarksUptoCard
end Rows
end Go.Proofs.YtclffhpdekepkaaDoor
