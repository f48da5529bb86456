/-
  NARROWER THAN 'FOR EVERY INPUT', by the rows' own cells (each row's printed sentence says how): CollBacks: laid · CollChains: laid · CollLevels: laid · CollTells: laid · KeyIs: laid · KeyStops: laid · KeyOrders: laid · KeyBegins: laid · LikeCounts: laid · LikeMatches: laid · CollSorts: laid · LikeRanges: laid.
  DERIVED. THE GIVEN ROWS OF THIS SEAT. 12 by the template 'for every input the law returns true; each argument reads behind the call as it read before'; 0 by the template 'total and deterministic' (their statements: YtkeodddpnmnheaaGreatDoorTotals.lean).
  GIVEN WITH THE SEED: the statements are not yours to turn. If you find one false, say at which input.
  Laid BY PROGRAM, IN A SANDBOX (cutbox-rows.mjs): the forced cells as the released guide's own fill.sh prints them over the translation 7a5d67a86bef3ffc… (all of the seat's roots in one cut). By AI agents, Wed Nov 11 2026. No macro, syntax, notation, axiom, sorry.
-/
import Derived.Test.YtkeodddpnmnheaaGreatDoorChecked
import GoSem.PinnedTables
import GoSem.Claim
import GoSem.ClaimJoined
import GoSem.ClaimMapViews
import Derived.JoinedTies
import Derived.KernelRfl
namespace Go.Proofs.YtkeodddpnmnheaaGreatDoor
/- THE CELL 'sum', in the pinned program and in every row, IS THE sha256 OF THE DUMP (.gsa) THAT YtkeodddpnmnheaaGreatDoorProg.lean LOADS. Nothing in Lean hashes anything: it is a label: what it is worth is what the hold of that sum in a sandbox is worth. -/
noncomputable def Tryz.pinned : Pinned := { name := "ytkeodddpnmnheaagreatdoor", sum := "7a5d67a86bef3ffc6d9f1471690e2380b6e93a647ba344c8ecd7fe59cff1e7c8", checked := Tryz.checked }
namespace Rows
def none {H : Type} : Left H := { results := [], args := [] }

/- WHAT THE LISTED PACKAGE-LEVEL VARIABLES READ AS WHEN THE CALL BEGINS. Each datum BY PROGRAM (the guide's laid-datum.mjs) off the statement by which the dump's own 'gosem.cut.vars' lays the variable. In a bare row this is a premise. The card (YtkeodddpnmnheaaGreatDoorCards.lean) ties it to the program's text. -/
def laid_unicode_utf8_acceptRanges {H : Type} : DataW H := .agg [.agg [.lit (.int .u8 128), .lit (.int .u8 191)], .agg [.lit (.int .u8 160), .lit (.int .u8 191)], .agg [.lit (.int .u8 128), .lit (.int .u8 159)], .agg [.lit (.int .u8 144), .lit (.int .u8 191)], .agg [.lit (.int .u8 128), .lit (.int .u8 143)], .agg [.lit (.int .u8 0), .lit (.int .u8 0)], .agg [.lit (.int .u8 0), .lit (.int .u8 0)], .agg [.lit (.int .u8 0), .lit (.int .u8 0)], .agg [.lit (.int .u8 0), .lit (.int .u8 0)], .agg [.lit (.int .u8 0), .lit (.int .u8 0)], .agg [.lit (.int .u8 0), .lit (.int .u8 0)], .agg [.lit (.int .u8 0), .lit (.int .u8 0)], .agg [.lit (.int .u8 0), .lit (.int .u8 0)], .agg [.lit (.int .u8 0), .lit (.int .u8 0)], .agg [.lit (.int .u8 0), .lit (.int .u8 0)], .agg [.lit (.int .u8 0), .lit (.int .u8 0)]]
/-- One of Go's own tables, pinned by name: the form's constant. -/
def laid_unicode_utf8_first : DataW Unit := Go.Pinned.utf8First

/-- 'umlautlaw8.CollBacks': WHATEVER THE INPUT: true; the input reads as it did. -/
def collBacksSpec : ChangeSpec := { name := "collBacks", fn := fun _ => fun
  | [d1, d2] => { results := [.lit (.bool true)], args := [d1, d2] }
  | _ => none }
def collBacksRow : OpenClaim := { program := "ytkeodddpnmnheaagreatdoor", sum := "7a5d67a86bef3ffc6d9f1471690e2380b6e93a647ba344c8ecd7fe59cff1e7c8", func := "umlaut/umlautlaw8.CollBacks", spec := "collBacks", inPlace := ["maps.clone"], unfollowed := true, recurses := true, named := ["unicode/utf8.first", "unicode/utf8.acceptRanges"], plainKeys := false, apart := false, laid := [("unicode/utf8.acceptRanges", laid_unicode_utf8_acceptRanges), ("unicode/utf8.first", laid_unicode_utf8_first)] }
def CollBacksSaid : Prop := collBacksRow.holds Tryz.pinned (OpenSpec.ofChange collBacksSpec)

/-- ITS FALSE NEIGHBOUR: 'it returns false'. Refute it at one input. -/
def collBacksWrong : ChangeSpec := { name := "collBacks", fn := fun _ => fun
  | [d1, d2] => { results := [.lit (.bool false)], args := [d1, d2] }
  | _ => none }
def CollBacksWrongFalsely : Prop := collBacksRow.holds Tryz.pinned (OpenSpec.ofChange collBacksWrong)

/-- 'umlautlaw8.CollChains': WHATEVER THE INPUT: true; the input reads as it did. -/
def collChainsSpec : ChangeSpec := { name := "collChains", fn := fun _ => fun
  | [d1, d2, d3, d4, d5, d6, d7, d8] => { results := [.lit (.bool true)], args := [d1, d2, d3, d4, d5, d6, d7, d8] }
  | _ => none }
def collChainsRow : OpenClaim := { program := "ytkeodddpnmnheaagreatdoor", sum := "7a5d67a86bef3ffc6d9f1471690e2380b6e93a647ba344c8ecd7fe59cff1e7c8", func := "umlaut/umlautlaw8.CollChains", spec := "collChains", inPlace := ["maps.clone"], unfollowed := true, recurses := true, named := ["unicode/utf8.first", "unicode/utf8.acceptRanges"], plainKeys := false, apart := false, laid := [("unicode/utf8.acceptRanges", laid_unicode_utf8_acceptRanges), ("unicode/utf8.first", laid_unicode_utf8_first)] }
def CollChainsSaid : Prop := collChainsRow.holds Tryz.pinned (OpenSpec.ofChange collChainsSpec)

/-- ITS FALSE NEIGHBOUR: 'it returns false'. Refute it at one input. -/
def collChainsWrong : ChangeSpec := { name := "collChains", fn := fun _ => fun
  | [d1, d2, d3, d4, d5, d6, d7, d8] => { results := [.lit (.bool false)], args := [d1, d2, d3, d4, d5, d6, d7, d8] }
  | _ => none }
def CollChainsWrongFalsely : Prop := collChainsRow.holds Tryz.pinned (OpenSpec.ofChange collChainsWrong)

/-- 'umlautlaw8.CollLevels': WHATEVER THE INPUT: true; the input reads as it did. -/
def collLevelsSpec : ChangeSpec := { name := "collLevels", fn := fun _ => fun
  | [d1, d2, d3, d4] => { results := [.lit (.bool true)], args := [d1, d2, d3, d4] }
  | _ => none }
def collLevelsRow : OpenClaim := { program := "ytkeodddpnmnheaagreatdoor", sum := "7a5d67a86bef3ffc6d9f1471690e2380b6e93a647ba344c8ecd7fe59cff1e7c8", func := "umlaut/umlautlaw8.CollLevels", spec := "collLevels", inPlace := ["maps.clone"], unfollowed := true, recurses := true, named := ["unicode/utf8.first", "unicode/utf8.acceptRanges"], plainKeys := false, apart := false, laid := [("unicode/utf8.acceptRanges", laid_unicode_utf8_acceptRanges), ("unicode/utf8.first", laid_unicode_utf8_first)] }
def CollLevelsSaid : Prop := collLevelsRow.holds Tryz.pinned (OpenSpec.ofChange collLevelsSpec)

/-- ITS FALSE NEIGHBOUR: 'it returns false'. Refute it at one input. -/
def collLevelsWrong : ChangeSpec := { name := "collLevels", fn := fun _ => fun
  | [d1, d2, d3, d4] => { results := [.lit (.bool false)], args := [d1, d2, d3, d4] }
  | _ => none }
def CollLevelsWrongFalsely : Prop := collLevelsRow.holds Tryz.pinned (OpenSpec.ofChange collLevelsWrong)

/-- 'umlautlaw8.CollTells': WHATEVER THE INPUT: true; the input reads as it did. -/
def collTellsSpec : ChangeSpec := { name := "collTells", fn := fun _ => fun
  | [d1, d2, d3, d4, d5, d6, d7, d8] => { results := [.lit (.bool true)], args := [d1, d2, d3, d4, d5, d6, d7, d8] }
  | _ => none }
def collTellsRow : OpenClaim := { program := "ytkeodddpnmnheaagreatdoor", sum := "7a5d67a86bef3ffc6d9f1471690e2380b6e93a647ba344c8ecd7fe59cff1e7c8", func := "umlaut/umlautlaw8.CollTells", spec := "collTells", inPlace := ["maps.clone"], unfollowed := true, recurses := true, named := ["unicode/utf8.first", "unicode/utf8.acceptRanges"], plainKeys := false, apart := false, laid := [("unicode/utf8.acceptRanges", laid_unicode_utf8_acceptRanges), ("unicode/utf8.first", laid_unicode_utf8_first)] }
def CollTellsSaid : Prop := collTellsRow.holds Tryz.pinned (OpenSpec.ofChange collTellsSpec)

/-- ITS FALSE NEIGHBOUR: 'it returns false'. Refute it at one input. -/
def collTellsWrong : ChangeSpec := { name := "collTells", fn := fun _ => fun
  | [d1, d2, d3, d4, d5, d6, d7, d8] => { results := [.lit (.bool false)], args := [d1, d2, d3, d4, d5, d6, d7, d8] }
  | _ => none }
def CollTellsWrongFalsely : Prop := collTellsRow.holds Tryz.pinned (OpenSpec.ofChange collTellsWrong)

/-- 'umlautlaw9.KeyIs': WHATEVER THE INPUT: true; the input reads as it did. -/
def keyIsSpec : ChangeSpec := { name := "keyIs", fn := fun _ => fun
  | [d1, d2, d3, d4, d5, d6] => { results := [.lit (.bool true)], args := [d1, d2, d3, d4, d5, d6] }
  | _ => none }
def keyIsRow : OpenClaim := { program := "ytkeodddpnmnheaagreatdoor", sum := "7a5d67a86bef3ffc6d9f1471690e2380b6e93a647ba344c8ecd7fe59cff1e7c8", func := "umlaut/umlautlaw9.KeyIs", spec := "keyIs", inPlace := ["maps.clone"], unfollowed := true, recurses := true, named := ["unicode/utf8.first", "unicode/utf8.acceptRanges"], plainKeys := false, apart := false, laid := [("unicode/utf8.acceptRanges", laid_unicode_utf8_acceptRanges), ("unicode/utf8.first", laid_unicode_utf8_first)] }
def KeyIsSaid : Prop := keyIsRow.holds Tryz.pinned (OpenSpec.ofChange keyIsSpec)

/-- ITS FALSE NEIGHBOUR: 'it returns false'. Refute it at one input. -/
def keyIsWrong : ChangeSpec := { name := "keyIs", fn := fun _ => fun
  | [d1, d2, d3, d4, d5, d6] => { results := [.lit (.bool false)], args := [d1, d2, d3, d4, d5, d6] }
  | _ => none }
def KeyIsWrongFalsely : Prop := keyIsRow.holds Tryz.pinned (OpenSpec.ofChange keyIsWrong)

/-- 'umlautlaw9.KeyStops': WHATEVER THE INPUT: true; the input reads as it did. -/
def keyStopsSpec : ChangeSpec := { name := "keyStops", fn := fun _ => fun
  | [d1, d2, d3, d4] => { results := [.lit (.bool true)], args := [d1, d2, d3, d4] }
  | _ => none }
def keyStopsRow : OpenClaim := { program := "ytkeodddpnmnheaagreatdoor", sum := "7a5d67a86bef3ffc6d9f1471690e2380b6e93a647ba344c8ecd7fe59cff1e7c8", func := "umlaut/umlautlaw9.KeyStops", spec := "keyStops", inPlace := ["maps.clone"], unfollowed := true, recurses := true, named := ["unicode/utf8.first", "unicode/utf8.acceptRanges"], plainKeys := false, apart := false, laid := [("unicode/utf8.acceptRanges", laid_unicode_utf8_acceptRanges), ("unicode/utf8.first", laid_unicode_utf8_first)] }
def KeyStopsSaid : Prop := keyStopsRow.holds Tryz.pinned (OpenSpec.ofChange keyStopsSpec)

/-- ITS FALSE NEIGHBOUR: 'it returns false'. Refute it at one input. -/
def keyStopsWrong : ChangeSpec := { name := "keyStops", fn := fun _ => fun
  | [d1, d2, d3, d4] => { results := [.lit (.bool false)], args := [d1, d2, d3, d4] }
  | _ => none }
def KeyStopsWrongFalsely : Prop := keyStopsRow.holds Tryz.pinned (OpenSpec.ofChange keyStopsWrong)

/-- 'umlautlaw9.KeyOrders': WHATEVER THE INPUT: true; the input reads as it did. -/
def keyOrdersSpec : ChangeSpec := { name := "keyOrders", fn := fun _ => fun
  | [d1, d2, d3, d4, d5, d6, d7] => { results := [.lit (.bool true)], args := [d1, d2, d3, d4, d5, d6, d7] }
  | _ => none }
def keyOrdersRow : OpenClaim := { program := "ytkeodddpnmnheaagreatdoor", sum := "7a5d67a86bef3ffc6d9f1471690e2380b6e93a647ba344c8ecd7fe59cff1e7c8", func := "umlaut/umlautlaw9.KeyOrders", spec := "keyOrders", inPlace := ["maps.clone"], unfollowed := true, recurses := true, named := ["unicode/utf8.first", "unicode/utf8.acceptRanges"], plainKeys := false, apart := false, laid := [("unicode/utf8.acceptRanges", laid_unicode_utf8_acceptRanges), ("unicode/utf8.first", laid_unicode_utf8_first)] }
def KeyOrdersSaid : Prop := keyOrdersRow.holds Tryz.pinned (OpenSpec.ofChange keyOrdersSpec)

/-- ITS FALSE NEIGHBOUR: 'it returns false'. Refute it at one input. -/
def keyOrdersWrong : ChangeSpec := { name := "keyOrders", fn := fun _ => fun
  | [d1, d2, d3, d4, d5, d6, d7] => { results := [.lit (.bool false)], args := [d1, d2, d3, d4, d5, d6, d7] }
  | _ => none }
def KeyOrdersWrongFalsely : Prop := keyOrdersRow.holds Tryz.pinned (OpenSpec.ofChange keyOrdersWrong)

/-- 'umlautlaw9.KeyBegins': WHATEVER THE INPUT: true; the input reads as it did. -/
def keyBeginsSpec : ChangeSpec := { name := "keyBegins", fn := fun _ => fun
  | [d1, d2, d3, d4] => { results := [.lit (.bool true)], args := [d1, d2, d3, d4] }
  | _ => none }
def keyBeginsRow : OpenClaim := { program := "ytkeodddpnmnheaagreatdoor", sum := "7a5d67a86bef3ffc6d9f1471690e2380b6e93a647ba344c8ecd7fe59cff1e7c8", func := "umlaut/umlautlaw9.KeyBegins", spec := "keyBegins", inPlace := ["maps.clone"], unfollowed := true, recurses := true, named := ["unicode/utf8.first", "unicode/utf8.acceptRanges"], plainKeys := false, apart := false, laid := [("unicode/utf8.acceptRanges", laid_unicode_utf8_acceptRanges), ("unicode/utf8.first", laid_unicode_utf8_first)] }
def KeyBeginsSaid : Prop := keyBeginsRow.holds Tryz.pinned (OpenSpec.ofChange keyBeginsSpec)

/-- ITS FALSE NEIGHBOUR: 'it returns false'. Refute it at one input. -/
def keyBeginsWrong : ChangeSpec := { name := "keyBegins", fn := fun _ => fun
  | [d1, d2, d3, d4] => { results := [.lit (.bool false)], args := [d1, d2, d3, d4] }
  | _ => none }
def KeyBeginsWrongFalsely : Prop := keyBeginsRow.holds Tryz.pinned (OpenSpec.ofChange keyBeginsWrong)

/-- 'umlautlaw16.LikeCounts': WHATEVER THE INPUT: true; the input reads as it did. -/
def likeCountsSpec : ChangeSpec := { name := "likeCounts", fn := fun _ => fun
  | [d1, d2, d3, d4] => { results := [.lit (.bool true)], args := [d1, d2, d3, d4] }
  | _ => none }
def likeCountsRow : OpenClaim := { program := "ytkeodddpnmnheaagreatdoor", sum := "7a5d67a86bef3ffc6d9f1471690e2380b6e93a647ba344c8ecd7fe59cff1e7c8", func := "umlaut/umlautlaw16.LikeCounts", spec := "likeCounts", inPlace := ["maps.clone"], unfollowed := true, recurses := true, named := ["unicode/utf8.first", "unicode/utf8.acceptRanges"], plainKeys := false, apart := false, laid := [("unicode/utf8.acceptRanges", laid_unicode_utf8_acceptRanges), ("unicode/utf8.first", laid_unicode_utf8_first)] }
def LikeCountsSaid : Prop := likeCountsRow.holds Tryz.pinned (OpenSpec.ofChange likeCountsSpec)

/-- ITS FALSE NEIGHBOUR: 'it returns false'. Refute it at one input. -/
def likeCountsWrong : ChangeSpec := { name := "likeCounts", fn := fun _ => fun
  | [d1, d2, d3, d4] => { results := [.lit (.bool false)], args := [d1, d2, d3, d4] }
  | _ => none }
def LikeCountsWrongFalsely : Prop := likeCountsRow.holds Tryz.pinned (OpenSpec.ofChange likeCountsWrong)

/-- 'umlautlaw16.LikeMatches': WHATEVER THE INPUT: true; the input reads as it did. -/
def likeMatchesSpec : ChangeSpec := { name := "likeMatches", fn := fun _ => fun
  | [d1, d2, d3, d4, d5, d6] => { results := [.lit (.bool true)], args := [d1, d2, d3, d4, d5, d6] }
  | _ => none }
def likeMatchesRow : OpenClaim := { program := "ytkeodddpnmnheaagreatdoor", sum := "7a5d67a86bef3ffc6d9f1471690e2380b6e93a647ba344c8ecd7fe59cff1e7c8", func := "umlaut/umlautlaw16.LikeMatches", spec := "likeMatches", inPlace := ["maps.clone"], unfollowed := true, recurses := true, named := ["unicode/utf8.first", "unicode/utf8.acceptRanges"], plainKeys := false, apart := false, laid := [("unicode/utf8.acceptRanges", laid_unicode_utf8_acceptRanges), ("unicode/utf8.first", laid_unicode_utf8_first)] }
def LikeMatchesSaid : Prop := likeMatchesRow.holds Tryz.pinned (OpenSpec.ofChange likeMatchesSpec)

/-- ITS FALSE NEIGHBOUR: 'it returns false'. Refute it at one input. -/
def likeMatchesWrong : ChangeSpec := { name := "likeMatches", fn := fun _ => fun
  | [d1, d2, d3, d4, d5, d6] => { results := [.lit (.bool false)], args := [d1, d2, d3, d4, d5, d6] }
  | _ => none }
def LikeMatchesWrongFalsely : Prop := likeMatchesRow.holds Tryz.pinned (OpenSpec.ofChange likeMatchesWrong)

/-- 'umlautlaw8.CollSorts': WHATEVER THE INPUT: true; the input reads as it did. -/
def collSortsSpec : ChangeSpec := { name := "collSorts", fn := fun _ => fun
  | [d1, d2, d3, d4] => { results := [.lit (.bool true)], args := [d1, d2, d3, d4] }
  | _ => none }
def collSortsRow : OpenClaim := { program := "ytkeodddpnmnheaagreatdoor", sum := "7a5d67a86bef3ffc6d9f1471690e2380b6e93a647ba344c8ecd7fe59cff1e7c8", func := "umlaut/umlautlaw8.CollSorts", spec := "collSorts", inPlace := ["maps.clone"], unfollowed := true, recurses := true, named := ["unicode/utf8.first", "unicode/utf8.acceptRanges"], plainKeys := false, apart := false, laid := [("unicode/utf8.acceptRanges", laid_unicode_utf8_acceptRanges), ("unicode/utf8.first", laid_unicode_utf8_first)] }
def CollSortsSaid : Prop := collSortsRow.holds Tryz.pinned (OpenSpec.ofChange collSortsSpec)

/-- ITS FALSE NEIGHBOUR: 'it returns false'. Refute it at one input. -/
def collSortsWrong : ChangeSpec := { name := "collSorts", fn := fun _ => fun
  | [d1, d2, d3, d4] => { results := [.lit (.bool false)], args := [d1, d2, d3, d4] }
  | _ => none }
def CollSortsWrongFalsely : Prop := collSortsRow.holds Tryz.pinned (OpenSpec.ofChange collSortsWrong)

/-- 'umlautlaw16.LikeRanges': WHATEVER THE INPUT: true; the input reads as it did. -/
def likeRangesSpec : ChangeSpec := { name := "likeRanges", fn := fun _ => fun
  | [d1, d2, d3, d4, d5] => { results := [.lit (.bool true)], args := [d1, d2, d3, d4, d5] }
  | _ => none }
def likeRangesRow : OpenClaim := { program := "ytkeodddpnmnheaagreatdoor", sum := "7a5d67a86bef3ffc6d9f1471690e2380b6e93a647ba344c8ecd7fe59cff1e7c8", func := "umlaut/umlautlaw16.LikeRanges", spec := "likeRanges", inPlace := ["maps.clone"], unfollowed := true, recurses := true, named := ["unicode/utf8.first", "unicode/utf8.acceptRanges"], plainKeys := false, apart := false, laid := [("unicode/utf8.acceptRanges", laid_unicode_utf8_acceptRanges), ("unicode/utf8.first", laid_unicode_utf8_first)] }
def LikeRangesSaid : Prop := likeRangesRow.holds Tryz.pinned (OpenSpec.ofChange likeRangesSpec)

/-- ITS FALSE NEIGHBOUR: 'it returns false'. Refute it at one input. -/
def likeRangesWrong : ChangeSpec := { name := "likeRanges", fn := fun _ => fun
  | [d1, d2, d3, d4, d5] => { results := [.lit (.bool false)], args := [d1, d2, d3, d4, d5] }
  | _ => none }
def LikeRangesWrongFalsely : Prop := likeRangesRow.holds Tryz.pinned (OpenSpec.ofChange likeRangesWrong)

/- THE SECOND FORM. 'bulk': how many values and letters a reading holds, each counted each time it is reached (what is shared counts as often as it is met; a slice's spare places count too). A statement '..UptoSaid' is the law's where the arguments, and the package variables that the reading takes, are together of bulk at most 1048576: NARROWER than '..Said'. Prove '..Said' where nothing that the law and all that it calls make is longer than what came in: it says more and counts as full. Else prove '..UptoSaid'. A law counts once. -/
mutual
def uptoBulk {H : Type} : DataW H → Nat
  | .lit (.string bytes) => bytes.length + 1
  | .lit _ => 1
  | .nil => 1
  | .ptr d => uptoBulk d + 1
  | .slice elems spare => uptoBulkAll elems + uptoBulkAll spare + 1
  | .agg parts => uptoBulkAll parts + 1
  | .iface _ d => uptoBulk d + 1
  | .map entries => uptoBulkEntries entries + 1
  | .held _ => 1
def uptoBulkAll {H : Type} : List (DataW H) → Nat
  | [] => 0
  | d :: r => uptoBulk d + uptoBulkAll r
def uptoBulkEntries {H : Type} : List (Lit × DataW H) → Nat
  | [] => 0
  | x :: r => uptoBulkEntry x + uptoBulkEntries r
def uptoBulkEntry {H : Type} : Lit × DataW H → Nat
  | (.string bytes, d) => bytes.length + uptoBulk d + 1
  | (_, d) => uptoBulk d + 1
 end
def uptoSmall : (H : Type) → List (DataW H) → Bool := fun _ ds => decide (uptoBulkAll ds ≤ 1048576)
def OpenSpec.upto (s : _root_.Go.ChangeSpec) : _root_.Go.OpenSpec := { _root_.Go.OpenSpec.ofChange s with cond := some uptoSmall }

/-- 'umlautlaw8.CollBacks', WHERE WHAT IT READS IS OF BULK AT MOST 1048576: true; the input reads as it did. -/
def collBacksUptoRow : OpenClaim := { program := "ytkeodddpnmnheaagreatdoor", sum := "7a5d67a86bef3ffc6d9f1471690e2380b6e93a647ba344c8ecd7fe59cff1e7c8", func := "umlaut/umlautlaw8.CollBacks", spec := "collBacks", inPlace := ["maps.clone"], unfollowed := true, recurses := true, named := ["unicode/utf8.first", "unicode/utf8.acceptRanges"], plainKeys := false, apart := false, laid := [("unicode/utf8.acceptRanges", laid_unicode_utf8_acceptRanges), ("unicode/utf8.first", laid_unicode_utf8_first)], narrowed := true }
def CollBacksUptoSaid : Prop := collBacksUptoRow.holds Tryz.pinned (OpenSpec.upto collBacksSpec)

/-- 'umlautlaw8.CollChains', WHERE WHAT IT READS IS OF BULK AT MOST 1048576: true; the input reads as it did. -/
def collChainsUptoRow : OpenClaim := { program := "ytkeodddpnmnheaagreatdoor", sum := "7a5d67a86bef3ffc6d9f1471690e2380b6e93a647ba344c8ecd7fe59cff1e7c8", func := "umlaut/umlautlaw8.CollChains", spec := "collChains", inPlace := ["maps.clone"], unfollowed := true, recurses := true, named := ["unicode/utf8.first", "unicode/utf8.acceptRanges"], plainKeys := false, apart := false, laid := [("unicode/utf8.acceptRanges", laid_unicode_utf8_acceptRanges), ("unicode/utf8.first", laid_unicode_utf8_first)], narrowed := true }
def CollChainsUptoSaid : Prop := collChainsUptoRow.holds Tryz.pinned (OpenSpec.upto collChainsSpec)

/-- 'umlautlaw8.CollLevels', WHERE WHAT IT READS IS OF BULK AT MOST 1048576: true; the input reads as it did. -/
def collLevelsUptoRow : OpenClaim := { program := "ytkeodddpnmnheaagreatdoor", sum := "7a5d67a86bef3ffc6d9f1471690e2380b6e93a647ba344c8ecd7fe59cff1e7c8", func := "umlaut/umlautlaw8.CollLevels", spec := "collLevels", inPlace := ["maps.clone"], unfollowed := true, recurses := true, named := ["unicode/utf8.first", "unicode/utf8.acceptRanges"], plainKeys := false, apart := false, laid := [("unicode/utf8.acceptRanges", laid_unicode_utf8_acceptRanges), ("unicode/utf8.first", laid_unicode_utf8_first)], narrowed := true }
def CollLevelsUptoSaid : Prop := collLevelsUptoRow.holds Tryz.pinned (OpenSpec.upto collLevelsSpec)

/-- 'umlautlaw8.CollTells', WHERE WHAT IT READS IS OF BULK AT MOST 1048576: true; the input reads as it did. -/
def collTellsUptoRow : OpenClaim := { program := "ytkeodddpnmnheaagreatdoor", sum := "7a5d67a86bef3ffc6d9f1471690e2380b6e93a647ba344c8ecd7fe59cff1e7c8", func := "umlaut/umlautlaw8.CollTells", spec := "collTells", inPlace := ["maps.clone"], unfollowed := true, recurses := true, named := ["unicode/utf8.first", "unicode/utf8.acceptRanges"], plainKeys := false, apart := false, laid := [("unicode/utf8.acceptRanges", laid_unicode_utf8_acceptRanges), ("unicode/utf8.first", laid_unicode_utf8_first)], narrowed := true }
def CollTellsUptoSaid : Prop := collTellsUptoRow.holds Tryz.pinned (OpenSpec.upto collTellsSpec)

/-- 'umlautlaw9.KeyIs', WHERE WHAT IT READS IS OF BULK AT MOST 1048576: true; the input reads as it did. -/
def keyIsUptoRow : OpenClaim := { program := "ytkeodddpnmnheaagreatdoor", sum := "7a5d67a86bef3ffc6d9f1471690e2380b6e93a647ba344c8ecd7fe59cff1e7c8", func := "umlaut/umlautlaw9.KeyIs", spec := "keyIs", inPlace := ["maps.clone"], unfollowed := true, recurses := true, named := ["unicode/utf8.first", "unicode/utf8.acceptRanges"], plainKeys := false, apart := false, laid := [("unicode/utf8.acceptRanges", laid_unicode_utf8_acceptRanges), ("unicode/utf8.first", laid_unicode_utf8_first)], narrowed := true }
def KeyIsUptoSaid : Prop := keyIsUptoRow.holds Tryz.pinned (OpenSpec.upto keyIsSpec)

/-- 'umlautlaw9.KeyStops', WHERE WHAT IT READS IS OF BULK AT MOST 1048576: true; the input reads as it did. -/
def keyStopsUptoRow : OpenClaim := { program := "ytkeodddpnmnheaagreatdoor", sum := "7a5d67a86bef3ffc6d9f1471690e2380b6e93a647ba344c8ecd7fe59cff1e7c8", func := "umlaut/umlautlaw9.KeyStops", spec := "keyStops", inPlace := ["maps.clone"], unfollowed := true, recurses := true, named := ["unicode/utf8.first", "unicode/utf8.acceptRanges"], plainKeys := false, apart := false, laid := [("unicode/utf8.acceptRanges", laid_unicode_utf8_acceptRanges), ("unicode/utf8.first", laid_unicode_utf8_first)], narrowed := true }
def KeyStopsUptoSaid : Prop := keyStopsUptoRow.holds Tryz.pinned (OpenSpec.upto keyStopsSpec)

/-- 'umlautlaw9.KeyOrders', WHERE WHAT IT READS IS OF BULK AT MOST 1048576: true; the input reads as it did. -/
def keyOrdersUptoRow : OpenClaim := { program := "ytkeodddpnmnheaagreatdoor", sum := "7a5d67a86bef3ffc6d9f1471690e2380b6e93a647ba344c8ecd7fe59cff1e7c8", func := "umlaut/umlautlaw9.KeyOrders", spec := "keyOrders", inPlace := ["maps.clone"], unfollowed := true, recurses := true, named := ["unicode/utf8.first", "unicode/utf8.acceptRanges"], plainKeys := false, apart := false, laid := [("unicode/utf8.acceptRanges", laid_unicode_utf8_acceptRanges), ("unicode/utf8.first", laid_unicode_utf8_first)], narrowed := true }
def KeyOrdersUptoSaid : Prop := keyOrdersUptoRow.holds Tryz.pinned (OpenSpec.upto keyOrdersSpec)

/-- 'umlautlaw9.KeyBegins', WHERE WHAT IT READS IS OF BULK AT MOST 1048576: true; the input reads as it did. -/
def keyBeginsUptoRow : OpenClaim := { program := "ytkeodddpnmnheaagreatdoor", sum := "7a5d67a86bef3ffc6d9f1471690e2380b6e93a647ba344c8ecd7fe59cff1e7c8", func := "umlaut/umlautlaw9.KeyBegins", spec := "keyBegins", inPlace := ["maps.clone"], unfollowed := true, recurses := true, named := ["unicode/utf8.first", "unicode/utf8.acceptRanges"], plainKeys := false, apart := false, laid := [("unicode/utf8.acceptRanges", laid_unicode_utf8_acceptRanges), ("unicode/utf8.first", laid_unicode_utf8_first)], narrowed := true }
def KeyBeginsUptoSaid : Prop := keyBeginsUptoRow.holds Tryz.pinned (OpenSpec.upto keyBeginsSpec)

/-- 'umlautlaw16.LikeCounts', WHERE WHAT IT READS IS OF BULK AT MOST 1048576: true; the input reads as it did. -/
def likeCountsUptoRow : OpenClaim := { program := "ytkeodddpnmnheaagreatdoor", sum := "7a5d67a86bef3ffc6d9f1471690e2380b6e93a647ba344c8ecd7fe59cff1e7c8", func := "umlaut/umlautlaw16.LikeCounts", spec := "likeCounts", inPlace := ["maps.clone"], unfollowed := true, recurses := true, named := ["unicode/utf8.first", "unicode/utf8.acceptRanges"], plainKeys := false, apart := false, laid := [("unicode/utf8.acceptRanges", laid_unicode_utf8_acceptRanges), ("unicode/utf8.first", laid_unicode_utf8_first)], narrowed := true }
def LikeCountsUptoSaid : Prop := likeCountsUptoRow.holds Tryz.pinned (OpenSpec.upto likeCountsSpec)

/-- 'umlautlaw16.LikeMatches', WHERE WHAT IT READS IS OF BULK AT MOST 1048576: true; the input reads as it did. -/
def likeMatchesUptoRow : OpenClaim := { program := "ytkeodddpnmnheaagreatdoor", sum := "7a5d67a86bef3ffc6d9f1471690e2380b6e93a647ba344c8ecd7fe59cff1e7c8", func := "umlaut/umlautlaw16.LikeMatches", spec := "likeMatches", inPlace := ["maps.clone"], unfollowed := true, recurses := true, named := ["unicode/utf8.first", "unicode/utf8.acceptRanges"], plainKeys := false, apart := false, laid := [("unicode/utf8.acceptRanges", laid_unicode_utf8_acceptRanges), ("unicode/utf8.first", laid_unicode_utf8_first)], narrowed := true }
def LikeMatchesUptoSaid : Prop := likeMatchesUptoRow.holds Tryz.pinned (OpenSpec.upto likeMatchesSpec)

/-- 'umlautlaw8.CollSorts', WHERE WHAT IT READS IS OF BULK AT MOST 1048576: true; the input reads as it did. -/
def collSortsUptoRow : OpenClaim := { program := "ytkeodddpnmnheaagreatdoor", sum := "7a5d67a86bef3ffc6d9f1471690e2380b6e93a647ba344c8ecd7fe59cff1e7c8", func := "umlaut/umlautlaw8.CollSorts", spec := "collSorts", inPlace := ["maps.clone"], unfollowed := true, recurses := true, named := ["unicode/utf8.first", "unicode/utf8.acceptRanges"], plainKeys := false, apart := false, laid := [("unicode/utf8.acceptRanges", laid_unicode_utf8_acceptRanges), ("unicode/utf8.first", laid_unicode_utf8_first)], narrowed := true }
def CollSortsUptoSaid : Prop := collSortsUptoRow.holds Tryz.pinned (OpenSpec.upto collSortsSpec)

/-- 'umlautlaw16.LikeRanges', WHERE WHAT IT READS IS OF BULK AT MOST 1048576: true; the input reads as it did. -/
def likeRangesUptoRow : OpenClaim := { program := "ytkeodddpnmnheaagreatdoor", sum := "7a5d67a86bef3ffc6d9f1471690e2380b6e93a647ba344c8ecd7fe59cff1e7c8", func := "umlaut/umlautlaw16.LikeRanges", spec := "likeRanges", inPlace := ["maps.clone"], unfollowed := true, recurses := true, named := ["unicode/utf8.first", "unicode/utf8.acceptRanges"], plainKeys := false, apart := false, laid := [("unicode/utf8.acceptRanges", laid_unicode_utf8_acceptRanges), ("unicode/utf8.first", laid_unicode_utf8_first)], narrowed := true }
def LikeRangesUptoSaid : Prop := likeRangesUptoRow.holds Tryz.pinned (OpenSpec.upto likeRangesSpec)

end Rows
end Go.Proofs.YtkeodddpnmnheaaGreatDoor
