/-
  NARROWER THAN 'FOR EVERY INPUT', by the rows' own cells (each row's printed sentence says how): LikeFolds: laid · LikeCounts: laid · LikeStars: laid · LikeMatches: laid · LikeQuotes: laid · LikeRanges: laid.
  DERIVED. THE GIVEN ROWS OF THIS SEAT. 6 by the template 'for every input the law returns true; each argument reads behind the call as it read before'; 0 by the template 'total and deterministic' (their statements: YtglamoompicciaaGreatDoorTotals.lean).
  GIVEN WITH THE SEED: the statements are not yours to turn. If you find one false, say at which input.
  Laid BY PROGRAM, IN A SANDBOX (cutbox-rows.mjs): the forced cells as the released guide's own fill.sh prints them over the translation f47d264b51e85584… (all of the seat's roots in one cut). By AI agents, Wed Nov 11 2026. No macro, syntax, notation, axiom, sorry.
-/
import Derived.Test.YtglamoompicciaaGreatDoorChecked
import GoSem.PinnedTables
import GoSem.Claim
import GoSem.ClaimJoined
import GoSem.ClaimMapViews
import Derived.JoinedTies
import Derived.KernelRfl
namespace Go.Proofs.YtglamoompicciaaGreatDoor
/- THE CELL 'sum', in the pinned program and in every row, IS THE sha256 OF THE DUMP (.gsa) THAT YtglamoompicciaaGreatDoorProg.lean LOADS. Nothing in Lean hashes anything: it is a label: what it is worth is what the hold of that sum in a sandbox is worth. -/
noncomputable def Tryz.pinned : Pinned := { name := "ytglamoompicciaagreatdoor", sum := "f47d264b51e855843c9ada6638a2521a56cc2f57080353da49af420ef93c02f4", checked := Tryz.checked }
namespace Rows
def none {H : Type} : Left H := { results := [], args := [] }

/- WHAT THE LISTED PACKAGE-LEVEL VARIABLES READ AS WHEN THE CALL BEGINS. Each datum BY PROGRAM (the guide's laid-datum.mjs) off the statement by which the dump's own 'gosem.cut.vars' lays the variable. In a bare row this is a premise. The card (YtglamoompicciaaGreatDoorCards.lean) ties it to the program's text. -/
def laid_unicode_utf8_acceptRanges {H : Type} : DataW H := .agg [.agg [.lit (.int .u8 128), .lit (.int .u8 191)], .agg [.lit (.int .u8 160), .lit (.int .u8 191)], .agg [.lit (.int .u8 128), .lit (.int .u8 159)], .agg [.lit (.int .u8 144), .lit (.int .u8 191)], .agg [.lit (.int .u8 128), .lit (.int .u8 143)], .agg [.lit (.int .u8 0), .lit (.int .u8 0)], .agg [.lit (.int .u8 0), .lit (.int .u8 0)], .agg [.lit (.int .u8 0), .lit (.int .u8 0)], .agg [.lit (.int .u8 0), .lit (.int .u8 0)], .agg [.lit (.int .u8 0), .lit (.int .u8 0)], .agg [.lit (.int .u8 0), .lit (.int .u8 0)], .agg [.lit (.int .u8 0), .lit (.int .u8 0)], .agg [.lit (.int .u8 0), .lit (.int .u8 0)], .agg [.lit (.int .u8 0), .lit (.int .u8 0)], .agg [.lit (.int .u8 0), .lit (.int .u8 0)], .agg [.lit (.int .u8 0), .lit (.int .u8 0)]]
/-- One of Go's own tables, pinned by name: the form's constant. -/
def laid_unicode_utf8_first : DataW Unit := Go.Pinned.utf8First

/-- 'umlautlaw16.LikeFolds': WHATEVER THE INPUT: true; the input reads as it did. -/
def likeFoldsSpec : ChangeSpec := { name := "likeFolds", fn := fun _ => fun
  | [d1, d2] => { results := [.lit (.bool true)], args := [d1, d2] }
  | _ => none }
def likeFoldsRow : OpenClaim := { program := "ytglamoompicciaagreatdoor", sum := "f47d264b51e855843c9ada6638a2521a56cc2f57080353da49af420ef93c02f4", func := "umlaut/umlautlaw16.LikeFolds", spec := "likeFolds", inPlace := ["maps.clone"], unfollowed := true, recurses := true, named := ["unicode/utf8.first", "unicode/utf8.acceptRanges"], plainKeys := false, apart := false, laid := [("unicode/utf8.acceptRanges", laid_unicode_utf8_acceptRanges), ("unicode/utf8.first", laid_unicode_utf8_first)] }
def LikeFoldsSaid : Prop := likeFoldsRow.holds Tryz.pinned (OpenSpec.ofChange likeFoldsSpec)

/-- ITS FALSE NEIGHBOUR: 'it returns false'. Refute it at one input. -/
def likeFoldsWrong : ChangeSpec := { name := "likeFolds", fn := fun _ => fun
  | [d1, d2] => { results := [.lit (.bool false)], args := [d1, d2] }
  | _ => none }
def LikeFoldsWrongFalsely : Prop := likeFoldsRow.holds Tryz.pinned (OpenSpec.ofChange likeFoldsWrong)

/-- 'umlautlaw16.LikeCounts': WHATEVER THE INPUT: true; the input reads as it did. -/
def likeCountsSpec : ChangeSpec := { name := "likeCounts", fn := fun _ => fun
  | [d1, d2, d3, d4] => { results := [.lit (.bool true)], args := [d1, d2, d3, d4] }
  | _ => none }
def likeCountsRow : OpenClaim := { program := "ytglamoompicciaagreatdoor", sum := "f47d264b51e855843c9ada6638a2521a56cc2f57080353da49af420ef93c02f4", func := "umlaut/umlautlaw16.LikeCounts", spec := "likeCounts", inPlace := ["maps.clone"], unfollowed := true, recurses := true, named := ["unicode/utf8.first", "unicode/utf8.acceptRanges"], plainKeys := false, apart := false, laid := [("unicode/utf8.acceptRanges", laid_unicode_utf8_acceptRanges), ("unicode/utf8.first", laid_unicode_utf8_first)] }
def LikeCountsSaid : Prop := likeCountsRow.holds Tryz.pinned (OpenSpec.ofChange likeCountsSpec)

/-- ITS FALSE NEIGHBOUR: 'it returns false'. Refute it at one input. -/
def likeCountsWrong : ChangeSpec := { name := "likeCounts", fn := fun _ => fun
  | [d1, d2, d3, d4] => { results := [.lit (.bool false)], args := [d1, d2, d3, d4] }
  | _ => none }
def LikeCountsWrongFalsely : Prop := likeCountsRow.holds Tryz.pinned (OpenSpec.ofChange likeCountsWrong)

/-- 'umlautlaw16.LikeStars': WHATEVER THE INPUT: true; the input reads as it did. -/
def likeStarsSpec : ChangeSpec := { name := "likeStars", fn := fun _ => fun
  | [d1, d2, d3] => { results := [.lit (.bool true)], args := [d1, d2, d3] }
  | _ => none }
def likeStarsRow : OpenClaim := { program := "ytglamoompicciaagreatdoor", sum := "f47d264b51e855843c9ada6638a2521a56cc2f57080353da49af420ef93c02f4", func := "umlaut/umlautlaw16.LikeStars", spec := "likeStars", inPlace := ["maps.clone"], unfollowed := true, recurses := true, named := ["unicode/utf8.first", "unicode/utf8.acceptRanges"], plainKeys := false, apart := false, laid := [("unicode/utf8.acceptRanges", laid_unicode_utf8_acceptRanges), ("unicode/utf8.first", laid_unicode_utf8_first)] }
def LikeStarsSaid : Prop := likeStarsRow.holds Tryz.pinned (OpenSpec.ofChange likeStarsSpec)

/-- ITS FALSE NEIGHBOUR: 'it returns false'. Refute it at one input. -/
def likeStarsWrong : ChangeSpec := { name := "likeStars", fn := fun _ => fun
  | [d1, d2, d3] => { results := [.lit (.bool false)], args := [d1, d2, d3] }
  | _ => none }
def LikeStarsWrongFalsely : Prop := likeStarsRow.holds Tryz.pinned (OpenSpec.ofChange likeStarsWrong)

/-- 'umlautlaw16.LikeMatches': WHATEVER THE INPUT: true; the input reads as it did. -/
def likeMatchesSpec : ChangeSpec := { name := "likeMatches", fn := fun _ => fun
  | [d1, d2, d3, d4, d5, d6] => { results := [.lit (.bool true)], args := [d1, d2, d3, d4, d5, d6] }
  | _ => none }
def likeMatchesRow : OpenClaim := { program := "ytglamoompicciaagreatdoor", sum := "f47d264b51e855843c9ada6638a2521a56cc2f57080353da49af420ef93c02f4", func := "umlaut/umlautlaw16.LikeMatches", spec := "likeMatches", inPlace := ["maps.clone"], unfollowed := true, recurses := true, named := ["unicode/utf8.first", "unicode/utf8.acceptRanges"], plainKeys := false, apart := false, laid := [("unicode/utf8.acceptRanges", laid_unicode_utf8_acceptRanges), ("unicode/utf8.first", laid_unicode_utf8_first)] }
def LikeMatchesSaid : Prop := likeMatchesRow.holds Tryz.pinned (OpenSpec.ofChange likeMatchesSpec)

/-- ITS FALSE NEIGHBOUR: 'it returns false'. Refute it at one input. -/
def likeMatchesWrong : ChangeSpec := { name := "likeMatches", fn := fun _ => fun
  | [d1, d2, d3, d4, d5, d6] => { results := [.lit (.bool false)], args := [d1, d2, d3, d4, d5, d6] }
  | _ => none }
def LikeMatchesWrongFalsely : Prop := likeMatchesRow.holds Tryz.pinned (OpenSpec.ofChange likeMatchesWrong)

/-- 'umlautlaw16.LikeQuotes': WHATEVER THE INPUT: true; the input reads as it did. -/
def likeQuotesSpec : ChangeSpec := { name := "likeQuotes", fn := fun _ => fun
  | [d1, d2, d3] => { results := [.lit (.bool true)], args := [d1, d2, d3] }
  | _ => none }
def likeQuotesRow : OpenClaim := { program := "ytglamoompicciaagreatdoor", sum := "f47d264b51e855843c9ada6638a2521a56cc2f57080353da49af420ef93c02f4", func := "umlaut/umlautlaw16.LikeQuotes", spec := "likeQuotes", inPlace := ["maps.clone", "internal/abi.NoEscape"], unfollowed := true, recurses := true, named := ["unicode/utf8.first", "unicode/utf8.acceptRanges"], plainKeys := false, apart := false, laid := [("unicode/utf8.acceptRanges", laid_unicode_utf8_acceptRanges), ("unicode/utf8.first", laid_unicode_utf8_first)] }
def LikeQuotesSaid : Prop := likeQuotesRow.holds Tryz.pinned (OpenSpec.ofChange likeQuotesSpec)

/-- ITS FALSE NEIGHBOUR: 'it returns false'. Refute it at one input. -/
def likeQuotesWrong : ChangeSpec := { name := "likeQuotes", fn := fun _ => fun
  | [d1, d2, d3] => { results := [.lit (.bool false)], args := [d1, d2, d3] }
  | _ => none }
def LikeQuotesWrongFalsely : Prop := likeQuotesRow.holds Tryz.pinned (OpenSpec.ofChange likeQuotesWrong)

/-- 'umlautlaw16.LikeRanges': WHATEVER THE INPUT: true; the input reads as it did. -/
def likeRangesSpec : ChangeSpec := { name := "likeRanges", fn := fun _ => fun
  | [d1, d2, d3, d4, d5] => { results := [.lit (.bool true)], args := [d1, d2, d3, d4, d5] }
  | _ => none }
def likeRangesRow : OpenClaim := { program := "ytglamoompicciaagreatdoor", sum := "f47d264b51e855843c9ada6638a2521a56cc2f57080353da49af420ef93c02f4", func := "umlaut/umlautlaw16.LikeRanges", spec := "likeRanges", inPlace := ["maps.clone"], unfollowed := true, recurses := true, named := ["unicode/utf8.first", "unicode/utf8.acceptRanges"], plainKeys := false, apart := false, laid := [("unicode/utf8.acceptRanges", laid_unicode_utf8_acceptRanges), ("unicode/utf8.first", laid_unicode_utf8_first)] }
def LikeRangesSaid : Prop := likeRangesRow.holds Tryz.pinned (OpenSpec.ofChange likeRangesSpec)

/-- ITS FALSE NEIGHBOUR: 'it returns false'. Refute it at one input. -/
def likeRangesWrong : ChangeSpec := { name := "likeRanges", fn := fun _ => fun
  | [d1, d2, d3, d4, d5] => { results := [.lit (.bool false)], args := [d1, d2, d3, d4, d5] }
  | _ => none }
def LikeRangesWrongFalsely : Prop := likeRangesRow.holds Tryz.pinned (OpenSpec.ofChange likeRangesWrong)

/- THE SECOND FORM. 'bulk': how many values and letters a reading holds, each counted each time it is reached (what is shared counts as often as it is met; a slice's spare places count too). A statement '..UptoSaid' is the law's where the arguments, and the package variables that the reading takes, are together of bulk at most 1048576: NARROWER than '..Said'. Prove '..Said' where nothing that the law and all that it calls make is longer than what came in: it says more and counts as full. Else prove '..UptoSaid'. A law counts once. -/
mutual
def uptoBulk {H : Type} : DataW H → Nat
  | .lit (.string bytes) => bytes.length + 1
  | .lit _ => 1
  | .nil => 1
  | .ptr d => uptoBulk d + 1
  | .slice elems spare => uptoBulkAll elems + uptoBulkAll spare + 1
  | .agg parts => uptoBulkAll parts + 1
  | .iface _ d => uptoBulk d + 1
  | .map entries => uptoBulkEntries entries + 1
  | .held _ => 1
def uptoBulkAll {H : Type} : List (DataW H) → Nat
  | [] => 0
  | d :: r => uptoBulk d + uptoBulkAll r
def uptoBulkEntries {H : Type} : List (Lit × DataW H) → Nat
  | [] => 0
  | x :: r => uptoBulkEntry x + uptoBulkEntries r
def uptoBulkEntry {H : Type} : Lit × DataW H → Nat
  | (.string bytes, d) => bytes.length + uptoBulk d + 1
  | (_, d) => uptoBulk d + 1
 end
def uptoSmall : (H : Type) → List (DataW H) → Bool := fun _ ds => decide (uptoBulkAll ds ≤ 1048576)
def OpenSpec.upto (s : _root_.Go.ChangeSpec) : _root_.Go.OpenSpec := { _root_.Go.OpenSpec.ofChange s with cond := some uptoSmall }

/-- 'umlautlaw16.LikeFolds', WHERE WHAT IT READS IS OF BULK AT MOST 1048576: true; the input reads as it did. -/
def likeFoldsUptoRow : OpenClaim := { program := "ytglamoompicciaagreatdoor", sum := "f47d264b51e855843c9ada6638a2521a56cc2f57080353da49af420ef93c02f4", func := "umlaut/umlautlaw16.LikeFolds", spec := "likeFolds", inPlace := ["maps.clone"], unfollowed := true, recurses := true, named := ["unicode/utf8.first", "unicode/utf8.acceptRanges"], plainKeys := false, apart := false, laid := [("unicode/utf8.acceptRanges", laid_unicode_utf8_acceptRanges), ("unicode/utf8.first", laid_unicode_utf8_first)], narrowed := true }
def LikeFoldsUptoSaid : Prop := likeFoldsUptoRow.holds Tryz.pinned (OpenSpec.upto likeFoldsSpec)

/-- 'umlautlaw16.LikeCounts', WHERE WHAT IT READS IS OF BULK AT MOST 1048576: true; the input reads as it did. -/
def likeCountsUptoRow : OpenClaim := { program := "ytglamoompicciaagreatdoor", sum := "f47d264b51e855843c9ada6638a2521a56cc2f57080353da49af420ef93c02f4", func := "umlaut/umlautlaw16.LikeCounts", spec := "likeCounts", inPlace := ["maps.clone"], unfollowed := true, recurses := true, named := ["unicode/utf8.first", "unicode/utf8.acceptRanges"], plainKeys := false, apart := false, laid := [("unicode/utf8.acceptRanges", laid_unicode_utf8_acceptRanges), ("unicode/utf8.first", laid_unicode_utf8_first)], narrowed := true }
def LikeCountsUptoSaid : Prop := likeCountsUptoRow.holds Tryz.pinned (OpenSpec.upto likeCountsSpec)

/-- 'umlautlaw16.LikeStars', WHERE WHAT IT READS IS OF BULK AT MOST 1048576: true; the input reads as it did. -/
def likeStarsUptoRow : OpenClaim := { program := "ytglamoompicciaagreatdoor", sum := "f47d264b51e855843c9ada6638a2521a56cc2f57080353da49af420ef93c02f4", func := "umlaut/umlautlaw16.LikeStars", spec := "likeStars", inPlace := ["maps.clone"], unfollowed := true, recurses := true, named := ["unicode/utf8.first", "unicode/utf8.acceptRanges"], plainKeys := false, apart := false, laid := [("unicode/utf8.acceptRanges", laid_unicode_utf8_acceptRanges), ("unicode/utf8.first", laid_unicode_utf8_first)], narrowed := true }
def LikeStarsUptoSaid : Prop := likeStarsUptoRow.holds Tryz.pinned (OpenSpec.upto likeStarsSpec)

/-- 'umlautlaw16.LikeMatches', WHERE WHAT IT READS IS OF BULK AT MOST 1048576: true; the input reads as it did. -/
def likeMatchesUptoRow : OpenClaim := { program := "ytglamoompicciaagreatdoor", sum := "f47d264b51e855843c9ada6638a2521a56cc2f57080353da49af420ef93c02f4", func := "umlaut/umlautlaw16.LikeMatches", spec := "likeMatches", inPlace := ["maps.clone"], unfollowed := true, recurses := true, named := ["unicode/utf8.first", "unicode/utf8.acceptRanges"], plainKeys := false, apart := false, laid := [("unicode/utf8.acceptRanges", laid_unicode_utf8_acceptRanges), ("unicode/utf8.first", laid_unicode_utf8_first)], narrowed := true }
def LikeMatchesUptoSaid : Prop := likeMatchesUptoRow.holds Tryz.pinned (OpenSpec.upto likeMatchesSpec)

/-- 'umlautlaw16.LikeQuotes', WHERE WHAT IT READS IS OF BULK AT MOST 1048576: true; the input reads as it did. -/
def likeQuotesUptoRow : OpenClaim := { program := "ytglamoompicciaagreatdoor", sum := "f47d264b51e855843c9ada6638a2521a56cc2f57080353da49af420ef93c02f4", func := "umlaut/umlautlaw16.LikeQuotes", spec := "likeQuotes", inPlace := ["maps.clone", "internal/abi.NoEscape"], unfollowed := true, recurses := true, named := ["unicode/utf8.first", "unicode/utf8.acceptRanges"], plainKeys := false, apart := false, laid := [("unicode/utf8.acceptRanges", laid_unicode_utf8_acceptRanges), ("unicode/utf8.first", laid_unicode_utf8_first)], narrowed := true }
def LikeQuotesUptoSaid : Prop := likeQuotesUptoRow.holds Tryz.pinned (OpenSpec.upto likeQuotesSpec)

/-- 'umlautlaw16.LikeRanges', WHERE WHAT IT READS IS OF BULK AT MOST 1048576: true; the input reads as it did. -/
def likeRangesUptoRow : OpenClaim := { program := "ytglamoompicciaagreatdoor", sum := "f47d264b51e855843c9ada6638a2521a56cc2f57080353da49af420ef93c02f4", func := "umlaut/umlautlaw16.LikeRanges", spec := "likeRanges", inPlace := ["maps.clone"], unfollowed := true, recurses := true, named := ["unicode/utf8.first", "unicode/utf8.acceptRanges"], plainKeys := false, apart := false, laid := [("unicode/utf8.acceptRanges", laid_unicode_utf8_acceptRanges), ("unicode/utf8.first", laid_unicode_utf8_first)], narrowed := true }
def LikeRangesUptoSaid : Prop := likeRangesUptoRow.holds Tryz.pinned (OpenSpec.upto likeRangesSpec)

end Rows
end Go.Proofs.YtglamoompicciaaGreatDoor
