/-
  DERIVED. GIVEN WITH THE SEED: THE CARDS: each row of YtglamoompicciaaGreatDoorRows.lean that lists a variable, with what it lists TIED to the program's text (the seventh form; the later family's looks); each row that meets fmt, with fmt's text TOLD by the authors' own Lean function (tested against real Go, not proved from fmt's source: count such statements apart). THE CARD IS WHAT COUNTS. Prove the row's statement (the work); the ties are given (YtglamoompicciaaGreatDoorTie.lean); close each card by the builder's one call (the guide's Derived/Test/ToyasCard.lean, 'card_holds'). Laid BY PROGRAM, IN A SANDBOX (cutbox-door.mjs). By AI agents, Wed Nov 11 2026. No macro, syntax, notation, axiom, sorry.
-/
import Derived.Test.YtglamoompicciaaGreatDoorRows
import GoSem.ClaimSeven
namespace Go.Proofs.YtglamoompicciaaGreatDoor
namespace Rows

/-- THE TIED CARD OF 'umlautlaw16.LikeFolds'. -/
def likeFoldsCard : Claim7 := { stood := { row := likeFoldsRow, standIns := [], harness := (true, "a70407d37047ad6daa3d4dbe5d6e508438537c1ea76b24602f758c398b3596f7"), looks := true }, kinds := [], alts := [], laidByText := true, laidKinds := [.data, .pinned], laidTests := true, laidLooks := .later }
def LikeFoldsCardSaid : Prop := Claim7.holds Tryz.pinned (.plain (OpenSpec.ofChange likeFoldsSpec)) likeFoldsCard

/-- THE TIED CARD OF 'umlautlaw16.LikeCounts'. -/
def likeCountsCard : Claim7 := { stood := { row := likeCountsRow, standIns := [], harness := (true, "a70407d37047ad6daa3d4dbe5d6e508438537c1ea76b24602f758c398b3596f7"), looks := true }, kinds := [], alts := [], laidByText := true, laidKinds := [.data, .pinned], laidTests := true, laidLooks := .later }
def LikeCountsCardSaid : Prop := Claim7.holds Tryz.pinned (.plain (OpenSpec.ofChange likeCountsSpec)) likeCountsCard

/-- THE TIED CARD OF 'umlautlaw16.LikeStars'. -/
def likeStarsCard : Claim7 := { stood := { row := likeStarsRow, standIns := [], harness := (true, "a70407d37047ad6daa3d4dbe5d6e508438537c1ea76b24602f758c398b3596f7"), looks := true }, kinds := [], alts := [], laidByText := true, laidKinds := [.data, .pinned], laidTests := true, laidLooks := .later }
def LikeStarsCardSaid : Prop := Claim7.holds Tryz.pinned (.plain (OpenSpec.ofChange likeStarsSpec)) likeStarsCard

/-- THE TIED CARD OF 'umlautlaw16.LikeMatches'. -/
def likeMatchesCard : Claim7 := { stood := { row := likeMatchesRow, standIns := [], harness := (true, "a70407d37047ad6daa3d4dbe5d6e508438537c1ea76b24602f758c398b3596f7"), looks := true }, kinds := [], alts := [], laidByText := true, laidKinds := [.data, .pinned], laidTests := true, laidLooks := .later }
def LikeMatchesCardSaid : Prop := Claim7.holds Tryz.pinned (.plain (OpenSpec.ofChange likeMatchesSpec)) likeMatchesCard

/-- THE TIED CARD OF 'umlautlaw16.LikeQuotes'. -/
def likeQuotesCard : Claim7 := { stood := { row := likeQuotesRow, standIns := [], harness := (true, "a70407d37047ad6daa3d4dbe5d6e508438537c1ea76b24602f758c398b3596f7"), looks := true }, kinds := [], alts := [], laidByText := true, laidKinds := [.data, .pinned], laidTests := true, laidLooks := .later }
def LikeQuotesCardSaid : Prop := Claim7.holds Tryz.pinned (.plain (OpenSpec.ofChange likeQuotesSpec)) likeQuotesCard

/-- THE TIED CARD OF 'umlautlaw16.LikeRanges'. -/
def likeRangesCard : Claim7 := { stood := { row := likeRangesRow, standIns := [], harness := (true, "a70407d37047ad6daa3d4dbe5d6e508438537c1ea76b24602f758c398b3596f7"), looks := true }, kinds := [], alts := [], laidByText := true, laidKinds := [.data, .pinned], laidTests := true, laidLooks := .later }
def LikeRangesCardSaid : Prop := Claim7.holds Tryz.pinned (.plain (OpenSpec.ofChange likeRangesSpec)) likeRangesCard

/-- THE SECOND FORM's CARD OF 'umlautlaw16.LikeFolds'. -/
def likeFoldsUptoCard : Claim7 := { stood := { row := likeFoldsUptoRow, standIns := [], harness := (true, "a70407d37047ad6daa3d4dbe5d6e508438537c1ea76b24602f758c398b3596f7"), looks := true }, kinds := [], alts := [], laidByText := true, laidKinds := [.data, .pinned], laidTests := true, laidLooks := .later }
def LikeFoldsUptoCardSaid : Prop := Claim7.holds Tryz.pinned (.plain (OpenSpec.upto likeFoldsSpec)) likeFoldsUptoCard

/-- THE SECOND FORM's CARD OF 'umlautlaw16.LikeCounts'. -/
def likeCountsUptoCard : Claim7 := { stood := { row := likeCountsUptoRow, standIns := [], harness := (true, "a70407d37047ad6daa3d4dbe5d6e508438537c1ea76b24602f758c398b3596f7"), looks := true }, kinds := [], alts := [], laidByText := true, laidKinds := [.data, .pinned], laidTests := true, laidLooks := .later }
def LikeCountsUptoCardSaid : Prop := Claim7.holds Tryz.pinned (.plain (OpenSpec.upto likeCountsSpec)) likeCountsUptoCard

/-- THE SECOND FORM's CARD OF 'umlautlaw16.LikeStars'. -/
def likeStarsUptoCard : Claim7 := { stood := { row := likeStarsUptoRow, standIns := [], harness := (true, "a70407d37047ad6daa3d4dbe5d6e508438537c1ea76b24602f758c398b3596f7"), looks := true }, kinds := [], alts := [], laidByText := true, laidKinds := [.data, .pinned], laidTests := true, laidLooks := .later }
def LikeStarsUptoCardSaid : Prop := Claim7.holds Tryz.pinned (.plain (OpenSpec.upto likeStarsSpec)) likeStarsUptoCard

/-- THE SECOND FORM's CARD OF 'umlautlaw16.LikeMatches'. -/
def likeMatchesUptoCard : Claim7 := { stood := { row := likeMatchesUptoRow, standIns := [], harness := (true, "a70407d37047ad6daa3d4dbe5d6e508438537c1ea76b24602f758c398b3596f7"), looks := true }, kinds := [], alts := [], laidByText := true, laidKinds := [.data, .pinned], laidTests := true, laidLooks := .later }
def LikeMatchesUptoCardSaid : Prop := Claim7.holds Tryz.pinned (.plain (OpenSpec.upto likeMatchesSpec)) likeMatchesUptoCard

/-- THE SECOND FORM's CARD OF 'umlautlaw16.LikeQuotes'. -/
def likeQuotesUptoCard : Claim7 := { stood := { row := likeQuotesUptoRow, standIns := [], harness := (true, "a70407d37047ad6daa3d4dbe5d6e508438537c1ea76b24602f758c398b3596f7"), looks := true }, kinds := [], alts := [], laidByText := true, laidKinds := [.data, .pinned], laidTests := true, laidLooks := .later }
def LikeQuotesUptoCardSaid : Prop := Claim7.holds Tryz.pinned (.plain (OpenSpec.upto likeQuotesSpec)) likeQuotesUptoCard

/-- THE SECOND FORM's CARD OF 'umlautlaw16.LikeRanges'. -/
def likeRangesUptoCard : Claim7 := { stood := { row := likeRangesUptoRow, standIns := [], harness := (true, "a70407d37047ad6daa3d4dbe5d6e508438537c1ea76b24602f758c398b3596f7"), looks := true }, kinds := [], alts := [], laidByText := true, laidKinds := [.data, .pinned], laidTests := true, laidLooks := .later }
def LikeRangesUptoCardSaid : Prop := Claim7.holds Tryz.pinned (.plain (OpenSpec.upto likeRangesSpec)) likeRangesUptoCard
end Rows
end Go.Proofs.YtglamoompicciaaGreatDoor
