/-
  DERIVED. GIVEN WITH THE SEED: THE CARDS: each row of YtjkeiomildghmaaGreatDoorRows.lean that lists a variable, with what it lists TIED to the program's text (the seventh form; the later family's looks); each row that meets fmt, with fmt's text TOLD by the authors' own Lean function (tested against real Go, not proved from fmt's source: count such statements apart). THE CARD IS WHAT COUNTS. Prove the row's statement (the work); the ties are given (YtjkeiomildghmaaGreatDoorTie.lean); close each card by the builder's one call (the guide's Derived/Test/ToyasCard.lean, 'card_holds'). Laid BY PROGRAM, IN A SANDBOX (cutbox-door.mjs). By AI agents, Wed Nov 11 2026. No macro, syntax, notation, axiom, sorry.
-/
import Derived.Test.YtjkeiomildghmaaGreatDoorRows
import GoSem.ClaimSeven
namespace Go.Proofs.YtjkeiomildghmaaGreatDoor
namespace Rows

/-- THE TIED CARD OF 'umlautlaw5.TableImplicit'. -/
def tableImplicitCard : Claim7 := { stood := { row := tableImplicitRow, standIns := [], harness := (true, "d7100621a8538440b17bdb48873264aac1c75c59e7f3218a0ced0defdb15d2e1"), looks := true }, kinds := [], alts := [], laidByText := true, laidKinds := [.data, .data, .data, .data, .pinned], laidTests := true, laidLooks := .later }
def TableImplicitCardSaid : Prop := Claim7.holds Tryz.pinned (.plain (OpenSpec.ofChange tableImplicitSpec)) tableImplicitCard

/-- THE TIED CARD OF 'umlautlaw5.TableLongest'. -/
def tableLongestCard : Claim7 := { stood := { row := tableLongestRow, standIns := [], harness := (true, "d7100621a8538440b17bdb48873264aac1c75c59e7f3218a0ced0defdb15d2e1"), looks := true }, kinds := [], alts := [], laidByText := true, laidKinds := [.data, .data, .data, .data, .pinned], laidTests := true, laidLooks := .later }
def TableLongestCardSaid : Prop := Claim7.holds Tryz.pinned (.plain (OpenSpec.ofChange tableLongestSpec)) tableLongestCard

/-- THE TIED CARD OF 'umlautlaw5.TableWeighs'. -/
def tableWeighsCard : Claim7 := { stood := { row := tableWeighsRow, standIns := [], harness := (true, "d7100621a8538440b17bdb48873264aac1c75c59e7f3218a0ced0defdb15d2e1"), looks := true }, kinds := [], alts := [], laidByText := true, laidKinds := [.data, .data, .data, .data, .pinned], laidTests := true, laidLooks := .later }
def TableWeighsCardSaid : Prop := Claim7.holds Tryz.pinned (.plain (OpenSpec.ofChange tableWeighsSpec)) tableWeighsCard

/-- THE TIED CARD OF 'umlautlaw5.TableRoot'. -/
def tableRootCard : Claim7 := { stood := { row := tableRootRow, standIns := [], harness := (true, "d7100621a8538440b17bdb48873264aac1c75c59e7f3218a0ced0defdb15d2e1"), looks := true }, kinds := [], alts := [], laidByText := true, laidKinds := [.data, .data, .data, .data, .pinned], laidTests := true, laidLooks := .later }
def TableRootCardSaid : Prop := Claim7.holds Tryz.pinned (.plain (OpenSpec.ofChange tableRootSpec)) tableRootCard

/-- THE TIED CARD OF 'umlautlaw5.TableMaps'. -/
def tableMapsCard : Claim7 := { stood := { row := tableMapsRow, standIns := [], harness := (true, "d7100621a8538440b17bdb48873264aac1c75c59e7f3218a0ced0defdb15d2e1"), looks := true }, kinds := [], alts := [], laidByText := true, laidKinds := [.data, .data, .data, .data, .pinned], laidTests := true, laidLooks := .later }
def TableMapsCardSaid : Prop := Claim7.holds Tryz.pinned (.plain (OpenSpec.ofChange tableMapsSpec)) tableMapsCard

/-- THE TIED CARD OF 'umlautlaw5.TablePuts'. -/
def tablePutsCard : Claim7 := { stood := { row := tablePutsRow, standIns := [], harness := (true, "d7100621a8538440b17bdb48873264aac1c75c59e7f3218a0ced0defdb15d2e1"), looks := true }, kinds := [], alts := [], laidByText := true, laidKinds := [.data, .data, .data, .data, .pinned], laidTests := true, laidLooks := .later }
def TablePutsCardSaid : Prop := Claim7.holds Tryz.pinned (.plain (OpenSpec.ofChange tablePutsSpec)) tablePutsCard

/-- THE SECOND FORM's CARD OF 'umlautlaw5.TableImplicit'. -/
def tableImplicitUptoCard : Claim7 := { stood := { row := tableImplicitUptoRow, standIns := [], harness := (true, "d7100621a8538440b17bdb48873264aac1c75c59e7f3218a0ced0defdb15d2e1"), looks := true }, kinds := [], alts := [], laidByText := true, laidKinds := [.data, .data, .data, .data, .pinned], laidTests := true, laidLooks := .later }
def TableImplicitUptoCardSaid : Prop := Claim7.holds Tryz.pinned (.plain (OpenSpec.upto tableImplicitSpec)) tableImplicitUptoCard

/-- THE SECOND FORM's CARD OF 'umlautlaw5.TableLongest'. -/
def tableLongestUptoCard : Claim7 := { stood := { row := tableLongestUptoRow, standIns := [], harness := (true, "d7100621a8538440b17bdb48873264aac1c75c59e7f3218a0ced0defdb15d2e1"), looks := true }, kinds := [], alts := [], laidByText := true, laidKinds := [.data, .data, .data, .data, .pinned], laidTests := true, laidLooks := .later }
def TableLongestUptoCardSaid : Prop := Claim7.holds Tryz.pinned (.plain (OpenSpec.upto tableLongestSpec)) tableLongestUptoCard

/-- THE SECOND FORM's CARD OF 'umlautlaw5.TableWeighs'. -/
def tableWeighsUptoCard : Claim7 := { stood := { row := tableWeighsUptoRow, standIns := [], harness := (true, "d7100621a8538440b17bdb48873264aac1c75c59e7f3218a0ced0defdb15d2e1"), looks := true }, kinds := [], alts := [], laidByText := true, laidKinds := [.data, .data, .data, .data, .pinned], laidTests := true, laidLooks := .later }
def TableWeighsUptoCardSaid : Prop := Claim7.holds Tryz.pinned (.plain (OpenSpec.upto tableWeighsSpec)) tableWeighsUptoCard

/-- THE SECOND FORM's CARD OF 'umlautlaw5.TableRoot'. -/
def tableRootUptoCard : Claim7 := { stood := { row := tableRootUptoRow, standIns := [], harness := (true, "d7100621a8538440b17bdb48873264aac1c75c59e7f3218a0ced0defdb15d2e1"), looks := true }, kinds := [], alts := [], laidByText := true, laidKinds := [.data, .data, .data, .data, .pinned], laidTests := true, laidLooks := .later }
def TableRootUptoCardSaid : Prop := Claim7.holds Tryz.pinned (.plain (OpenSpec.upto tableRootSpec)) tableRootUptoCard

/-- THE SECOND FORM's CARD OF 'umlautlaw5.TableMaps'. -/
def tableMapsUptoCard : Claim7 := { stood := { row := tableMapsUptoRow, standIns := [], harness := (true, "d7100621a8538440b17bdb48873264aac1c75c59e7f3218a0ced0defdb15d2e1"), looks := true }, kinds := [], alts := [], laidByText := true, laidKinds := [.data, .data, .data, .data, .pinned], laidTests := true, laidLooks := .later }
def TableMapsUptoCardSaid : Prop := Claim7.holds Tryz.pinned (.plain (OpenSpec.upto tableMapsSpec)) tableMapsUptoCard

/-- THE SECOND FORM's CARD OF 'umlautlaw5.TablePuts'. -/
def tablePutsUptoCard : Claim7 := { stood := { row := tablePutsUptoRow, standIns := [], harness := (true, "d7100621a8538440b17bdb48873264aac1c75c59e7f3218a0ced0defdb15d2e1"), looks := true }, kinds := [], alts := [], laidByText := true, laidKinds := [.data, .data, .data, .data, .pinned], laidTests := true, laidLooks := .later }
def TablePutsUptoCardSaid : Prop := Claim7.holds Tryz.pinned (.plain (OpenSpec.upto tablePutsSpec)) tablePutsUptoCard
end Rows
end Go.Proofs.YtjkeiomildghmaaGreatDoor
