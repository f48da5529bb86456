/-
  NARROWER THAN 'FOR EVERY INPUT', by the rows' own cells (each row's printed sentence says how): CollChains: laid · CollLevels: laid · CollTells: laid · KeyIs: laid · KeyOrders: laid · LikeMatches: laid · LikeRanges: laid · TailorReads: laid · TailorApplies: laid · TablePuts: laid · TailorSame: laid · TailorPairs: laid.
  DERIVED. THE GIVEN ROWS OF THIS SEAT. 12 by the template 'for every input the law returns true; each argument reads behind the call as it read before'; 0 by the template 'total and deterministic' (their statements: YtikmdhhbamggfaaGreatDoorTotals.lean).
  GIVEN WITH THE SEED: the statements are not yours to turn. If you find one false, say at which input.
  Laid BY PROGRAM, IN A SANDBOX (cutbox-rows.mjs): the forced cells as the released guide's own fill.sh prints them over the translation f48497ab39c17876… (all of the seat's roots in one cut). By AI agents, Wed Nov 11 2026. No macro, syntax, notation, axiom, sorry.
-/
import Derived.Test.YtikmdhhbamggfaaGreatDoorChecked
import GoSem.PinnedTables
import GoSem.Claim
import GoSem.ClaimJoined
import GoSem.ClaimMapViews
import Derived.JoinedTies
import Derived.KernelRfl
namespace Go.Proofs.YtikmdhhbamggfaaGreatDoor
/- THE CELL 'sum', in the pinned program and in every row, IS THE sha256 OF THE DUMP (.gsa) THAT YtikmdhhbamggfaaGreatDoorProg.lean LOADS. Nothing in Lean hashes anything: it is a label: what it is worth is what the hold of that sum in a sandbox is worth. -/
noncomputable def Tryz.pinned : Pinned := { name := "ytikmdhhbamggfaagreatdoor", sum := "f48497ab39c17876a14b68a0e3354a42dd29a4e79911b03fe9fa02df50740bec", checked := Tryz.checked }
namespace Rows
def none {H : Type} : Left H := { results := [], args := [] }

/- WHAT THE LISTED PACKAGE-LEVEL VARIABLES READ AS WHEN THE CALL BEGINS. Each datum BY PROGRAM (the guide's laid-datum.mjs) off the statement by which the dump's own 'gosem.cut.vars' lays the variable. In a bare row this is a premise. The card (YtikmdhhbamggfaaGreatDoorCards.lean) ties it to the program's text. -/
def laid_unicode_utf8_acceptRanges {H : Type} : DataW H := .agg [.agg [.lit (.int .u8 128), .lit (.int .u8 191)], .agg [.lit (.int .u8 160), .lit (.int .u8 191)], .agg [.lit (.int .u8 128), .lit (.int .u8 159)], .agg [.lit (.int .u8 144), .lit (.int .u8 191)], .agg [.lit (.int .u8 128), .lit (.int .u8 143)], .agg [.lit (.int .u8 0), .lit (.int .u8 0)], .agg [.lit (.int .u8 0), .lit (.int .u8 0)], .agg [.lit (.int .u8 0), .lit (.int .u8 0)], .agg [.lit (.int .u8 0), .lit (.int .u8 0)], .agg [.lit (.int .u8 0), .lit (.int .u8 0)], .agg [.lit (.int .u8 0), .lit (.int .u8 0)], .agg [.lit (.int .u8 0), .lit (.int .u8 0)], .agg [.lit (.int .u8 0), .lit (.int .u8 0)], .agg [.lit (.int .u8 0), .lit (.int .u8 0)], .agg [.lit (.int .u8 0), .lit (.int .u8 0)], .agg [.lit (.int .u8 0), .lit (.int .u8 0)]]
/-- One of Go's own tables, pinned by name: the form's constant. -/
def laid_unicode_utf8_first : DataW Unit := Go.Pinned.utf8First
def laid_math_bits_deBruijn32tab {H : Type} : DataW H := .agg [.lit (.int .u8 0), .lit (.int .u8 1), .lit (.int .u8 28), .lit (.int .u8 2), .lit (.int .u8 29), .lit (.int .u8 14), .lit (.int .u8 24), .lit (.int .u8 3), .lit (.int .u8 30), .lit (.int .u8 22), .lit (.int .u8 20), .lit (.int .u8 15), .lit (.int .u8 25), .lit (.int .u8 17), .lit (.int .u8 4), .lit (.int .u8 8), .lit (.int .u8 31), .lit (.int .u8 27), .lit (.int .u8 13), .lit (.int .u8 23), .lit (.int .u8 21), .lit (.int .u8 19), .lit (.int .u8 16), .lit (.int .u8 7), .lit (.int .u8 26), .lit (.int .u8 12), .lit (.int .u8 18), .lit (.int .u8 6), .lit (.int .u8 11), .lit (.int .u8 5), .lit (.int .u8 10), .lit (.int .u8 9)]
def laid_math_bits_deBruijn64tab {H : Type} : DataW H := .agg [.lit (.int .u8 0), .lit (.int .u8 1), .lit (.int .u8 56), .lit (.int .u8 2), .lit (.int .u8 57), .lit (.int .u8 49), .lit (.int .u8 28), .lit (.int .u8 3), .lit (.int .u8 61), .lit (.int .u8 58), .lit (.int .u8 42), .lit (.int .u8 50), .lit (.int .u8 38), .lit (.int .u8 29), .lit (.int .u8 17), .lit (.int .u8 4), .lit (.int .u8 62), .lit (.int .u8 47), .lit (.int .u8 59), .lit (.int .u8 36), .lit (.int .u8 45), .lit (.int .u8 43), .lit (.int .u8 51), .lit (.int .u8 22), .lit (.int .u8 53), .lit (.int .u8 39), .lit (.int .u8 33), .lit (.int .u8 30), .lit (.int .u8 24), .lit (.int .u8 18), .lit (.int .u8 12), .lit (.int .u8 5), .lit (.int .u8 63), .lit (.int .u8 55), .lit (.int .u8 48), .lit (.int .u8 27), .lit (.int .u8 60), .lit (.int .u8 41), .lit (.int .u8 37), .lit (.int .u8 16), .lit (.int .u8 46), .lit (.int .u8 35), .lit (.int .u8 44), .lit (.int .u8 21), .lit (.int .u8 52), .lit (.int .u8 32), .lit (.int .u8 23), .lit (.int .u8 11), .lit (.int .u8 54), .lit (.int .u8 26), .lit (.int .u8 40), .lit (.int .u8 15), .lit (.int .u8 34), .lit (.int .u8 20), .lit (.int .u8 31), .lit (.int .u8 10), .lit (.int .u8 25), .lit (.int .u8 14), .lit (.int .u8 19), .lit (.int .u8 9), .lit (.int .u8 13), .lit (.int .u8 8), .lit (.int .u8 7), .lit (.int .u8 6)]
def laid_internal_strconv_uint64pow10 {H : Type} : DataW H := .agg [.lit (.int .u64 1), .lit (.int .u64 10), .lit (.int .u64 100), .lit (.int .u64 1000), .lit (.int .u64 10000), .lit (.int .u64 100000), .lit (.int .u64 1000000), .lit (.int .u64 10000000), .lit (.int .u64 100000000), .lit (.int .u64 1000000000), .lit (.int .u64 10000000000), .lit (.int .u64 100000000000), .lit (.int .u64 1000000000000), .lit (.int .u64 10000000000000), .lit (.int .u64 100000000000000), .lit (.int .u64 1000000000000000), .lit (.int .u64 10000000000000000), .lit (.int .u64 100000000000000000), .lit (.int .u64 1000000000000000000), .lit (.int .u64 10000000000000000000)]

/-- 'umlautlaw8.CollChains': WHATEVER THE INPUT: true; the input reads as it did. -/
def collChainsSpec : ChangeSpec := { name := "collChains", fn := fun _ => fun
  | [d1, d2, d3, d4, d5, d6, d7, d8] => { results := [.lit (.bool true)], args := [d1, d2, d3, d4, d5, d6, d7, d8] }
  | _ => none }
def collChainsRow : OpenClaim := { program := "ytikmdhhbamggfaagreatdoor", sum := "f48497ab39c17876a14b68a0e3354a42dd29a4e79911b03fe9fa02df50740bec", func := "umlaut/umlautlaw8.CollChains", spec := "collChains", inPlace := ["maps.clone"], unfollowed := true, recurses := true, named := ["unicode/utf8.first", "unicode/utf8.acceptRanges"], plainKeys := false, apart := false, laid := [("unicode/utf8.acceptRanges", laid_unicode_utf8_acceptRanges), ("unicode/utf8.first", laid_unicode_utf8_first)] }
def CollChainsSaid : Prop := collChainsRow.holds Tryz.pinned (OpenSpec.ofChange collChainsSpec)

/-- ITS FALSE NEIGHBOUR: 'it returns false'. Refute it at one input. -/
def collChainsWrong : ChangeSpec := { name := "collChains", fn := fun _ => fun
  | [d1, d2, d3, d4, d5, d6, d7, d8] => { results := [.lit (.bool false)], args := [d1, d2, d3, d4, d5, d6, d7, d8] }
  | _ => none }
def CollChainsWrongFalsely : Prop := collChainsRow.holds Tryz.pinned (OpenSpec.ofChange collChainsWrong)

/-- 'umlautlaw8.CollLevels': WHATEVER THE INPUT: true; the input reads as it did. -/
def collLevelsSpec : ChangeSpec := { name := "collLevels", fn := fun _ => fun
  | [d1, d2, d3, d4] => { results := [.lit (.bool true)], args := [d1, d2, d3, d4] }
  | _ => none }
def collLevelsRow : OpenClaim := { program := "ytikmdhhbamggfaagreatdoor", sum := "f48497ab39c17876a14b68a0e3354a42dd29a4e79911b03fe9fa02df50740bec", func := "umlaut/umlautlaw8.CollLevels", spec := "collLevels", inPlace := ["maps.clone"], unfollowed := true, recurses := true, named := ["unicode/utf8.first", "unicode/utf8.acceptRanges"], plainKeys := false, apart := false, laid := [("unicode/utf8.acceptRanges", laid_unicode_utf8_acceptRanges), ("unicode/utf8.first", laid_unicode_utf8_first)] }
def CollLevelsSaid : Prop := collLevelsRow.holds Tryz.pinned (OpenSpec.ofChange collLevelsSpec)

/-- ITS FALSE NEIGHBOUR: 'it returns false'. Refute it at one input. -/
def collLevelsWrong : ChangeSpec := { name := "collLevels", fn := fun _ => fun
  | [d1, d2, d3, d4] => { results := [.lit (.bool false)], args := [d1, d2, d3, d4] }
  | _ => none }
def CollLevelsWrongFalsely : Prop := collLevelsRow.holds Tryz.pinned (OpenSpec.ofChange collLevelsWrong)

/-- 'umlautlaw8.CollTells': WHATEVER THE INPUT: true; the input reads as it did. -/
def collTellsSpec : ChangeSpec := { name := "collTells", fn := fun _ => fun
  | [d1, d2, d3, d4, d5, d6, d7, d8] => { results := [.lit (.bool true)], args := [d1, d2, d3, d4, d5, d6, d7, d8] }
  | _ => none }
def collTellsRow : OpenClaim := { program := "ytikmdhhbamggfaagreatdoor", sum := "f48497ab39c17876a14b68a0e3354a42dd29a4e79911b03fe9fa02df50740bec", func := "umlaut/umlautlaw8.CollTells", spec := "collTells", inPlace := ["maps.clone"], unfollowed := true, recurses := true, named := ["unicode/utf8.first", "unicode/utf8.acceptRanges"], plainKeys := false, apart := false, laid := [("unicode/utf8.acceptRanges", laid_unicode_utf8_acceptRanges), ("unicode/utf8.first", laid_unicode_utf8_first)] }
def CollTellsSaid : Prop := collTellsRow.holds Tryz.pinned (OpenSpec.ofChange collTellsSpec)

/-- ITS FALSE NEIGHBOUR: 'it returns false'. Refute it at one input. -/
def collTellsWrong : ChangeSpec := { name := "collTells", fn := fun _ => fun
  | [d1, d2, d3, d4, d5, d6, d7, d8] => { results := [.lit (.bool false)], args := [d1, d2, d3, d4, d5, d6, d7, d8] }
  | _ => none }
def CollTellsWrongFalsely : Prop := collTellsRow.holds Tryz.pinned (OpenSpec.ofChange collTellsWrong)

/-- 'umlautlaw9.KeyIs': WHATEVER THE INPUT: true; the input reads as it did. -/
def keyIsSpec : ChangeSpec := { name := "keyIs", fn := fun _ => fun
  | [d1, d2, d3, d4, d5, d6] => { results := [.lit (.bool true)], args := [d1, d2, d3, d4, d5, d6] }
  | _ => none }
def keyIsRow : OpenClaim := { program := "ytikmdhhbamggfaagreatdoor", sum := "f48497ab39c17876a14b68a0e3354a42dd29a4e79911b03fe9fa02df50740bec", func := "umlaut/umlautlaw9.KeyIs", spec := "keyIs", inPlace := ["maps.clone"], unfollowed := true, recurses := true, named := ["unicode/utf8.first", "unicode/utf8.acceptRanges"], plainKeys := false, apart := false, laid := [("unicode/utf8.acceptRanges", laid_unicode_utf8_acceptRanges), ("unicode/utf8.first", laid_unicode_utf8_first)] }
def KeyIsSaid : Prop := keyIsRow.holds Tryz.pinned (OpenSpec.ofChange keyIsSpec)

/-- ITS FALSE NEIGHBOUR: 'it returns false'. Refute it at one input. -/
def keyIsWrong : ChangeSpec := { name := "keyIs", fn := fun _ => fun
  | [d1, d2, d3, d4, d5, d6] => { results := [.lit (.bool false)], args := [d1, d2, d3, d4, d5, d6] }
  | _ => none }
def KeyIsWrongFalsely : Prop := keyIsRow.holds Tryz.pinned (OpenSpec.ofChange keyIsWrong)

/-- 'umlautlaw9.KeyOrders': WHATEVER THE INPUT: true; the input reads as it did. -/
def keyOrdersSpec : ChangeSpec := { name := "keyOrders", fn := fun _ => fun
  | [d1, d2, d3, d4, d5, d6, d7] => { results := [.lit (.bool true)], args := [d1, d2, d3, d4, d5, d6, d7] }
  | _ => none }
def keyOrdersRow : OpenClaim := { program := "ytikmdhhbamggfaagreatdoor", sum := "f48497ab39c17876a14b68a0e3354a42dd29a4e79911b03fe9fa02df50740bec", func := "umlaut/umlautlaw9.KeyOrders", spec := "keyOrders", inPlace := ["maps.clone"], unfollowed := true, recurses := true, named := ["unicode/utf8.first", "unicode/utf8.acceptRanges"], plainKeys := false, apart := false, laid := [("unicode/utf8.acceptRanges", laid_unicode_utf8_acceptRanges), ("unicode/utf8.first", laid_unicode_utf8_first)] }
def KeyOrdersSaid : Prop := keyOrdersRow.holds Tryz.pinned (OpenSpec.ofChange keyOrdersSpec)

/-- ITS FALSE NEIGHBOUR: 'it returns false'. Refute it at one input. -/
def keyOrdersWrong : ChangeSpec := { name := "keyOrders", fn := fun _ => fun
  | [d1, d2, d3, d4, d5, d6, d7] => { results := [.lit (.bool false)], args := [d1, d2, d3, d4, d5, d6, d7] }
  | _ => none }
def KeyOrdersWrongFalsely : Prop := keyOrdersRow.holds Tryz.pinned (OpenSpec.ofChange keyOrdersWrong)

/-- 'umlautlaw16.LikeMatches': WHATEVER THE INPUT: true; the input reads as it did. -/
def likeMatchesSpec : ChangeSpec := { name := "likeMatches", fn := fun _ => fun
  | [d1, d2, d3, d4, d5, d6] => { results := [.lit (.bool true)], args := [d1, d2, d3, d4, d5, d6] }
  | _ => none }
def likeMatchesRow : OpenClaim := { program := "ytikmdhhbamggfaagreatdoor", sum := "f48497ab39c17876a14b68a0e3354a42dd29a4e79911b03fe9fa02df50740bec", func := "umlaut/umlautlaw16.LikeMatches", spec := "likeMatches", inPlace := ["maps.clone"], unfollowed := true, recurses := true, named := ["unicode/utf8.first", "unicode/utf8.acceptRanges"], plainKeys := false, apart := false, laid := [("unicode/utf8.acceptRanges", laid_unicode_utf8_acceptRanges), ("unicode/utf8.first", laid_unicode_utf8_first)] }
def LikeMatchesSaid : Prop := likeMatchesRow.holds Tryz.pinned (OpenSpec.ofChange likeMatchesSpec)

/-- ITS FALSE NEIGHBOUR: 'it returns false'. Refute it at one input. -/
def likeMatchesWrong : ChangeSpec := { name := "likeMatches", fn := fun _ => fun
  | [d1, d2, d3, d4, d5, d6] => { results := [.lit (.bool false)], args := [d1, d2, d3, d4, d5, d6] }
  | _ => none }
def LikeMatchesWrongFalsely : Prop := likeMatchesRow.holds Tryz.pinned (OpenSpec.ofChange likeMatchesWrong)

/-- 'umlautlaw16.LikeRanges': WHATEVER THE INPUT: true; the input reads as it did. -/
def likeRangesSpec : ChangeSpec := { name := "likeRanges", fn := fun _ => fun
  | [d1, d2, d3, d4, d5] => { results := [.lit (.bool true)], args := [d1, d2, d3, d4, d5] }
  | _ => none }
def likeRangesRow : OpenClaim := { program := "ytikmdhhbamggfaagreatdoor", sum := "f48497ab39c17876a14b68a0e3354a42dd29a4e79911b03fe9fa02df50740bec", func := "umlaut/umlautlaw16.LikeRanges", spec := "likeRanges", inPlace := ["maps.clone"], unfollowed := true, recurses := true, named := ["unicode/utf8.first", "unicode/utf8.acceptRanges"], plainKeys := false, apart := false, laid := [("unicode/utf8.acceptRanges", laid_unicode_utf8_acceptRanges), ("unicode/utf8.first", laid_unicode_utf8_first)] }
def LikeRangesSaid : Prop := likeRangesRow.holds Tryz.pinned (OpenSpec.ofChange likeRangesSpec)

/-- ITS FALSE NEIGHBOUR: 'it returns false'. Refute it at one input. -/
def likeRangesWrong : ChangeSpec := { name := "likeRanges", fn := fun _ => fun
  | [d1, d2, d3, d4, d5] => { results := [.lit (.bool false)], args := [d1, d2, d3, d4, d5] }
  | _ => none }
def LikeRangesWrongFalsely : Prop := likeRangesRow.holds Tryz.pinned (OpenSpec.ofChange likeRangesWrong)

/-- 'umlautlaw7.TailorReads': WHATEVER THE INPUT: true; the input reads as it did. -/
def tailorReadsSpec : ChangeSpec := { name := "tailorReads", fn := fun _ => fun
  | [d] => { results := [.lit (.bool true)], args := [d] }
  | _ => none }
def tailorReadsRow : OpenClaim := { program := "ytikmdhhbamggfaagreatdoor", sum := "f48497ab39c17876a14b68a0e3354a42dd29a4e79911b03fe9fa02df50740bec", func := "umlaut/umlautlaw7.TailorReads", spec := "tailorReads", inPlace := ["maps.clone"], unfollowed := true, recurses := true, named := ["unicode/utf8.first", "unicode/utf8.acceptRanges"], plainKeys := false, apart := false, laid := [("unicode/utf8.acceptRanges", laid_unicode_utf8_acceptRanges), ("unicode/utf8.first", laid_unicode_utf8_first)] }
def TailorReadsSaid : Prop := tailorReadsRow.holds Tryz.pinned (OpenSpec.ofChange tailorReadsSpec)

/-- ITS FALSE NEIGHBOUR: 'it returns false'. Refute it at one input. -/
def tailorReadsWrong : ChangeSpec := { name := "tailorReads", fn := fun _ => fun
  | [d] => { results := [.lit (.bool false)], args := [d] }
  | _ => none }
def TailorReadsWrongFalsely : Prop := tailorReadsRow.holds Tryz.pinned (OpenSpec.ofChange tailorReadsWrong)

/-- 'umlautlaw7.TailorApplies': WHATEVER THE INPUT: true; the input reads as it did. -/
def tailorAppliesSpec : ChangeSpec := { name := "tailorApplies", fn := fun _ => fun
  | [d1, d2] => { results := [.lit (.bool true)], args := [d1, d2] }
  | _ => none }
def tailorAppliesRow : OpenClaim := { program := "ytikmdhhbamggfaagreatdoor", sum := "f48497ab39c17876a14b68a0e3354a42dd29a4e79911b03fe9fa02df50740bec", func := "umlaut/umlautlaw7.TailorApplies", spec := "tailorApplies", inPlace := ["maps.clone"], unfollowed := true, recurses := true, named := ["unicode/utf8.first", "unicode/utf8.acceptRanges"], plainKeys := false, apart := false, laid := [("unicode/utf8.acceptRanges", laid_unicode_utf8_acceptRanges), ("unicode/utf8.first", laid_unicode_utf8_first)] }
def TailorAppliesSaid : Prop := tailorAppliesRow.holds Tryz.pinned (OpenSpec.ofChange tailorAppliesSpec)

/-- ITS FALSE NEIGHBOUR: 'it returns false'. Refute it at one input. -/
def tailorAppliesWrong : ChangeSpec := { name := "tailorApplies", fn := fun _ => fun
  | [d1, d2] => { results := [.lit (.bool false)], args := [d1, d2] }
  | _ => none }
def TailorAppliesWrongFalsely : Prop := tailorAppliesRow.holds Tryz.pinned (OpenSpec.ofChange tailorAppliesWrong)

/-- 'umlautlaw5.TablePuts': WHATEVER THE INPUT: true; the input reads as it did. -/
def tablePutsSpec : ChangeSpec := { name := "tablePuts", fn := fun _ => fun
  | [d1, d2] => { results := [.lit (.bool true)], args := [d1, d2] }
  | _ => none }
def tablePutsRow : OpenClaim := { program := "ytikmdhhbamggfaagreatdoor", sum := "f48497ab39c17876a14b68a0e3354a42dd29a4e79911b03fe9fa02df50740bec", func := "umlaut/umlautlaw5.TablePuts", spec := "tablePuts", inPlace := ["internal/abi.NoEscape", "internal/bytealg.MakeNoZero", "maps.clone"], unfollowed := true, recurses := true, named := ["unicode/utf8.first", "unicode/utf8.acceptRanges", "internal/strconv.uint64pow10", "math/bits.deBruijn32tab", "math/bits.deBruijn64tab"], plainKeys := false, apart := false, laid := [("math/bits.deBruijn32tab", laid_math_bits_deBruijn32tab), ("math/bits.deBruijn64tab", laid_math_bits_deBruijn64tab), ("internal/strconv.uint64pow10", laid_internal_strconv_uint64pow10), ("unicode/utf8.acceptRanges", laid_unicode_utf8_acceptRanges), ("unicode/utf8.first", laid_unicode_utf8_first)] }
def TablePutsSaid : Prop := tablePutsRow.holds Tryz.pinned (OpenSpec.ofChange tablePutsSpec)

/-- ITS FALSE NEIGHBOUR: 'it returns false'. Refute it at one input. -/
def tablePutsWrong : ChangeSpec := { name := "tablePuts", fn := fun _ => fun
  | [d1, d2] => { results := [.lit (.bool false)], args := [d1, d2] }
  | _ => none }
def TablePutsWrongFalsely : Prop := tablePutsRow.holds Tryz.pinned (OpenSpec.ofChange tablePutsWrong)

/-- 'umlautlaw8.TailorSame': WHATEVER THE INPUT: true; the input reads as it did. -/
def tailorSameSpec : ChangeSpec := { name := "tailorSame", fn := fun _ => fun
  | [d1, d2, d3, d4] => { results := [.lit (.bool true)], args := [d1, d2, d3, d4] }
  | _ => none }
def tailorSameRow : OpenClaim := { program := "ytikmdhhbamggfaagreatdoor", sum := "f48497ab39c17876a14b68a0e3354a42dd29a4e79911b03fe9fa02df50740bec", func := "umlaut/umlautlaw8.TailorSame", spec := "tailorSame", inPlace := ["maps.clone"], unfollowed := true, recurses := true, named := ["unicode/utf8.first", "unicode/utf8.acceptRanges"], plainKeys := false, apart := false, laid := [("unicode/utf8.acceptRanges", laid_unicode_utf8_acceptRanges), ("unicode/utf8.first", laid_unicode_utf8_first)] }
def TailorSameSaid : Prop := tailorSameRow.holds Tryz.pinned (OpenSpec.ofChange tailorSameSpec)

/-- ITS FALSE NEIGHBOUR: 'it returns false'. Refute it at one input. -/
def tailorSameWrong : ChangeSpec := { name := "tailorSame", fn := fun _ => fun
  | [d1, d2, d3, d4] => { results := [.lit (.bool false)], args := [d1, d2, d3, d4] }
  | _ => none }
def TailorSameWrongFalsely : Prop := tailorSameRow.holds Tryz.pinned (OpenSpec.ofChange tailorSameWrong)

/-- 'umlautlaw8.TailorPairs': WHATEVER THE INPUT: true; the input reads as it did. -/
def tailorPairsSpec : ChangeSpec := { name := "tailorPairs", fn := fun _ => fun
  | [d1, d2, d3, d4] => { results := [.lit (.bool true)], args := [d1, d2, d3, d4] }
  | _ => none }
def tailorPairsRow : OpenClaim := { program := "ytikmdhhbamggfaagreatdoor", sum := "f48497ab39c17876a14b68a0e3354a42dd29a4e79911b03fe9fa02df50740bec", func := "umlaut/umlautlaw8.TailorPairs", spec := "tailorPairs", inPlace := ["maps.clone"], unfollowed := true, recurses := true, named := ["unicode/utf8.first", "unicode/utf8.acceptRanges"], plainKeys := false, apart := false, laid := [("unicode/utf8.acceptRanges", laid_unicode_utf8_acceptRanges), ("unicode/utf8.first", laid_unicode_utf8_first)] }
def TailorPairsSaid : Prop := tailorPairsRow.holds Tryz.pinned (OpenSpec.ofChange tailorPairsSpec)

/-- ITS FALSE NEIGHBOUR: 'it returns false'. Refute it at one input. -/
def tailorPairsWrong : ChangeSpec := { name := "tailorPairs", fn := fun _ => fun
  | [d1, d2, d3, d4] => { results := [.lit (.bool false)], args := [d1, d2, d3, d4] }
  | _ => none }
def TailorPairsWrongFalsely : Prop := tailorPairsRow.holds Tryz.pinned (OpenSpec.ofChange tailorPairsWrong)

/- THE SECOND FORM. 'bulk': how many values and letters a reading holds, each counted each time it is reached (what is shared counts as often as it is met; a slice's spare places count too). A statement '..UptoSaid' is the law's where the arguments, and the package variables that the reading takes, are together of bulk at most 1048576: NARROWER than '..Said'. Prove '..Said' where nothing that the law and all that it calls make is longer than what came in: it says more and counts as full. Else prove '..UptoSaid'. A law counts once. -/
mutual
def uptoBulk {H : Type} : DataW H → Nat
  | .lit (.string bytes) => bytes.length + 1
  | .lit _ => 1
  | .nil => 1
  | .ptr d => uptoBulk d + 1
  | .slice elems spare => uptoBulkAll elems + uptoBulkAll spare + 1
  | .agg parts => uptoBulkAll parts + 1
  | .iface _ d => uptoBulk d + 1
  | .map entries => uptoBulkEntries entries + 1
  | .held _ => 1
def uptoBulkAll {H : Type} : List (DataW H) → Nat
  | [] => 0
  | d :: r => uptoBulk d + uptoBulkAll r
def uptoBulkEntries {H : Type} : List (Lit × DataW H) → Nat
  | [] => 0
  | x :: r => uptoBulkEntry x + uptoBulkEntries r
def uptoBulkEntry {H : Type} : Lit × DataW H → Nat
  | (.string bytes, d) => bytes.length + uptoBulk d + 1
  | (_, d) => uptoBulk d + 1
 end
def uptoSmall : (H : Type) → List (DataW H) → Bool := fun _ ds => decide (uptoBulkAll ds ≤ 1048576)
def OpenSpec.upto (s : _root_.Go.ChangeSpec) : _root_.Go.OpenSpec := { _root_.Go.OpenSpec.ofChange s with cond := some uptoSmall }

/-- 'umlautlaw8.CollChains', WHERE WHAT IT READS IS OF BULK AT MOST 1048576: true; the input reads as it did. -/
def collChainsUptoRow : OpenClaim := { program := "ytikmdhhbamggfaagreatdoor", sum := "f48497ab39c17876a14b68a0e3354a42dd29a4e79911b03fe9fa02df50740bec", func := "umlaut/umlautlaw8.CollChains", spec := "collChains", inPlace := ["maps.clone"], unfollowed := true, recurses := true, named := ["unicode/utf8.first", "unicode/utf8.acceptRanges"], plainKeys := false, apart := false, laid := [("unicode/utf8.acceptRanges", laid_unicode_utf8_acceptRanges), ("unicode/utf8.first", laid_unicode_utf8_first)], narrowed := true }
def CollChainsUptoSaid : Prop := collChainsUptoRow.holds Tryz.pinned (OpenSpec.upto collChainsSpec)

/-- 'umlautlaw8.CollLevels', WHERE WHAT IT READS IS OF BULK AT MOST 1048576: true; the input reads as it did. -/
def collLevelsUptoRow : OpenClaim := { program := "ytikmdhhbamggfaagreatdoor", sum := "f48497ab39c17876a14b68a0e3354a42dd29a4e79911b03fe9fa02df50740bec", func := "umlaut/umlautlaw8.CollLevels", spec := "collLevels", inPlace := ["maps.clone"], unfollowed := true, recurses := true, named := ["unicode/utf8.first", "unicode/utf8.acceptRanges"], plainKeys := false, apart := false, laid := [("unicode/utf8.acceptRanges", laid_unicode_utf8_acceptRanges), ("unicode/utf8.first", laid_unicode_utf8_first)], narrowed := true }
def CollLevelsUptoSaid : Prop := collLevelsUptoRow.holds Tryz.pinned (OpenSpec.upto collLevelsSpec)

/-- 'umlautlaw8.CollTells', WHERE WHAT IT READS IS OF BULK AT MOST 1048576: true; the input reads as it did. -/
def collTellsUptoRow : OpenClaim := { program := "ytikmdhhbamggfaagreatdoor", sum := "f48497ab39c17876a14b68a0e3354a42dd29a4e79911b03fe9fa02df50740bec", func := "umlaut/umlautlaw8.CollTells", spec := "collTells", inPlace := ["maps.clone"], unfollowed := true, recurses := true, named := ["unicode/utf8.first", "unicode/utf8.acceptRanges"], plainKeys := false, apart := false, laid := [("unicode/utf8.acceptRanges", laid_unicode_utf8_acceptRanges), ("unicode/utf8.first", laid_unicode_utf8_first)], narrowed := true }
def CollTellsUptoSaid : Prop := collTellsUptoRow.holds Tryz.pinned (OpenSpec.upto collTellsSpec)

/-- 'umlautlaw9.KeyIs', WHERE WHAT IT READS IS OF BULK AT MOST 1048576: true; the input reads as it did. -/
def keyIsUptoRow : OpenClaim := { program := "ytikmdhhbamggfaagreatdoor", sum := "f48497ab39c17876a14b68a0e3354a42dd29a4e79911b03fe9fa02df50740bec", func := "umlaut/umlautlaw9.KeyIs", spec := "keyIs", inPlace := ["maps.clone"], unfollowed := true, recurses := true, named := ["unicode/utf8.first", "unicode/utf8.acceptRanges"], plainKeys := false, apart := false, laid := [("unicode/utf8.acceptRanges", laid_unicode_utf8_acceptRanges), ("unicode/utf8.first", laid_unicode_utf8_first)], narrowed := true }
def KeyIsUptoSaid : Prop := keyIsUptoRow.holds Tryz.pinned (OpenSpec.upto keyIsSpec)

/-- 'umlautlaw9.KeyOrders', WHERE WHAT IT READS IS OF BULK AT MOST 1048576: true; the input reads as it did. -/
def keyOrdersUptoRow : OpenClaim := { program := "ytikmdhhbamggfaagreatdoor", sum := "f48497ab39c17876a14b68a0e3354a42dd29a4e79911b03fe9fa02df50740bec", func := "umlaut/umlautlaw9.KeyOrders", spec := "keyOrders", inPlace := ["maps.clone"], unfollowed := true, recurses := true, named := ["unicode/utf8.first", "unicode/utf8.acceptRanges"], plainKeys := false, apart := false, laid := [("unicode/utf8.acceptRanges", laid_unicode_utf8_acceptRanges), ("unicode/utf8.first", laid_unicode_utf8_first)], narrowed := true }
def KeyOrdersUptoSaid : Prop := keyOrdersUptoRow.holds Tryz.pinned (OpenSpec.upto keyOrdersSpec)

/-- 'umlautlaw16.LikeMatches', WHERE WHAT IT READS IS OF BULK AT MOST 1048576: true; the input reads as it did. -/
def likeMatchesUptoRow : OpenClaim := { program := "ytikmdhhbamggfaagreatdoor", sum := "f48497ab39c17876a14b68a0e3354a42dd29a4e79911b03fe9fa02df50740bec", func := "umlaut/umlautlaw16.LikeMatches", spec := "likeMatches", inPlace := ["maps.clone"], unfollowed := true, recurses := true, named := ["unicode/utf8.first", "unicode/utf8.acceptRanges"], plainKeys := false, apart := false, laid := [("unicode/utf8.acceptRanges", laid_unicode_utf8_acceptRanges), ("unicode/utf8.first", laid_unicode_utf8_first)], narrowed := true }
def LikeMatchesUptoSaid : Prop := likeMatchesUptoRow.holds Tryz.pinned (OpenSpec.upto likeMatchesSpec)

/-- 'umlautlaw16.LikeRanges', WHERE WHAT IT READS IS OF BULK AT MOST 1048576: true; the input reads as it did. -/
def likeRangesUptoRow : OpenClaim := { program := "ytikmdhhbamggfaagreatdoor", sum := "f48497ab39c17876a14b68a0e3354a42dd29a4e79911b03fe9fa02df50740bec", func := "umlaut/umlautlaw16.LikeRanges", spec := "likeRanges", inPlace := ["maps.clone"], unfollowed := true, recurses := true, named := ["unicode/utf8.first", "unicode/utf8.acceptRanges"], plainKeys := false, apart := false, laid := [("unicode/utf8.acceptRanges", laid_unicode_utf8_acceptRanges), ("unicode/utf8.first", laid_unicode_utf8_first)], narrowed := true }
def LikeRangesUptoSaid : Prop := likeRangesUptoRow.holds Tryz.pinned (OpenSpec.upto likeRangesSpec)

/-- 'umlautlaw7.TailorReads', WHERE WHAT IT READS IS OF BULK AT MOST 1048576: true; the input reads as it did. -/
def tailorReadsUptoRow : OpenClaim := { program := "ytikmdhhbamggfaagreatdoor", sum := "f48497ab39c17876a14b68a0e3354a42dd29a4e79911b03fe9fa02df50740bec", func := "umlaut/umlautlaw7.TailorReads", spec := "tailorReads", inPlace := ["maps.clone"], unfollowed := true, recurses := true, named := ["unicode/utf8.first", "unicode/utf8.acceptRanges"], plainKeys := false, apart := false, laid := [("unicode/utf8.acceptRanges", laid_unicode_utf8_acceptRanges), ("unicode/utf8.first", laid_unicode_utf8_first)], narrowed := true }
def TailorReadsUptoSaid : Prop := tailorReadsUptoRow.holds Tryz.pinned (OpenSpec.upto tailorReadsSpec)

/-- 'umlautlaw7.TailorApplies', WHERE WHAT IT READS IS OF BULK AT MOST 1048576: true; the input reads as it did. -/
def tailorAppliesUptoRow : OpenClaim := { program := "ytikmdhhbamggfaagreatdoor", sum := "f48497ab39c17876a14b68a0e3354a42dd29a4e79911b03fe9fa02df50740bec", func := "umlaut/umlautlaw7.TailorApplies", spec := "tailorApplies", inPlace := ["maps.clone"], unfollowed := true, recurses := true, named := ["unicode/utf8.first", "unicode/utf8.acceptRanges"], plainKeys := false, apart := false, laid := [("unicode/utf8.acceptRanges", laid_unicode_utf8_acceptRanges), ("unicode/utf8.first", laid_unicode_utf8_first)], narrowed := true }
def TailorAppliesUptoSaid : Prop := tailorAppliesUptoRow.holds Tryz.pinned (OpenSpec.upto tailorAppliesSpec)

/-- 'umlautlaw5.TablePuts', WHERE WHAT IT READS IS OF BULK AT MOST 1048576: true; the input reads as it did. -/
def tablePutsUptoRow : OpenClaim := { program := "ytikmdhhbamggfaagreatdoor", sum := "f48497ab39c17876a14b68a0e3354a42dd29a4e79911b03fe9fa02df50740bec", func := "umlaut/umlautlaw5.TablePuts", spec := "tablePuts", inPlace := ["internal/abi.NoEscape", "internal/bytealg.MakeNoZero", "maps.clone"], unfollowed := true, recurses := true, named := ["unicode/utf8.first", "unicode/utf8.acceptRanges", "internal/strconv.uint64pow10", "math/bits.deBruijn32tab", "math/bits.deBruijn64tab"], plainKeys := false, apart := false, laid := [("math/bits.deBruijn32tab", laid_math_bits_deBruijn32tab), ("math/bits.deBruijn64tab", laid_math_bits_deBruijn64tab), ("internal/strconv.uint64pow10", laid_internal_strconv_uint64pow10), ("unicode/utf8.acceptRanges", laid_unicode_utf8_acceptRanges), ("unicode/utf8.first", laid_unicode_utf8_first)], narrowed := true }
def TablePutsUptoSaid : Prop := tablePutsUptoRow.holds Tryz.pinned (OpenSpec.upto tablePutsSpec)

/-- 'umlautlaw8.TailorSame', WHERE WHAT IT READS IS OF BULK AT MOST 1048576: true; the input reads as it did. -/
def tailorSameUptoRow : OpenClaim := { program := "ytikmdhhbamggfaagreatdoor", sum := "f48497ab39c17876a14b68a0e3354a42dd29a4e79911b03fe9fa02df50740bec", func := "umlaut/umlautlaw8.TailorSame", spec := "tailorSame", inPlace := ["maps.clone"], unfollowed := true, recurses := true, named := ["unicode/utf8.first", "unicode/utf8.acceptRanges"], plainKeys := false, apart := false, laid := [("unicode/utf8.acceptRanges", laid_unicode_utf8_acceptRanges), ("unicode/utf8.first", laid_unicode_utf8_first)], narrowed := true }
def TailorSameUptoSaid : Prop := tailorSameUptoRow.holds Tryz.pinned (OpenSpec.upto tailorSameSpec)

/-- 'umlautlaw8.TailorPairs', WHERE WHAT IT READS IS OF BULK AT MOST 1048576: true; the input reads as it did. -/
def tailorPairsUptoRow : OpenClaim := { program := "ytikmdhhbamggfaagreatdoor", sum := "f48497ab39c17876a14b68a0e3354a42dd29a4e79911b03fe9fa02df50740bec", func := "umlaut/umlautlaw8.TailorPairs", spec := "tailorPairs", inPlace := ["maps.clone"], unfollowed := true, recurses := true, named := ["unicode/utf8.first", "unicode/utf8.acceptRanges"], plainKeys := false, apart := false, laid := [("unicode/utf8.acceptRanges", laid_unicode_utf8_acceptRanges), ("unicode/utf8.first", laid_unicode_utf8_first)], narrowed := true }
def TailorPairsUptoSaid : Prop := tailorPairsUptoRow.holds Tryz.pinned (OpenSpec.upto tailorPairsSpec)

end Rows
end Go.Proofs.YtikmdhhbamggfaaGreatDoor
