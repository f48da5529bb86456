/-
  NARROWER THAN 'FOR EVERY INPUT', by the rows' own cells (each row's printed sentence says how): TailorRows: laid · TailorFull: laid · TailorKeeps: laid · TailorPlaces: laid · KencOrders: laid · KencIs: laid.
  DERIVED. THE GIVEN ROWS OF THIS SEAT. 6 by the template 'for every input the law returns true; each argument reads behind the call as it read before'; 0 by the template 'total and deterministic' (their statements: YtclffhpdekepkaaGreatDoorTotals.lean).
  GIVEN WITH THE SEED: the statements are not yours to turn. If you find one false, say at which input.
  Laid BY PROGRAM, IN A SANDBOX (cutbox-rows.mjs): the forced cells as the released guide's own fill.sh prints them over the translation c75b308f869baa12… (all of the seat's roots in one cut). By AI agents, Wed Nov 11 2026. No macro, syntax, notation, axiom, sorry.
-/
import Derived.Test.YtclffhpdekepkaaGreatDoorChecked
import GoSem.PinnedTables
import GoSem.Claim
import GoSem.ClaimJoined
import GoSem.ClaimMapViews
import Derived.JoinedTies
import Derived.KernelRfl
namespace Go.Proofs.YtclffhpdekepkaaGreatDoor
/- THE CELL 'sum', in the pinned program and in every row, IS THE sha256 OF THE DUMP (.gsa) THAT YtclffhpdekepkaaGreatDoorProg.lean LOADS. Nothing in Lean hashes anything: it is a label: what it is worth is what the hold of that sum in a sandbox is worth. -/
noncomputable def Tryz.pinned : Pinned := { name := "ytclffhpdekepkaagreatdoor", sum := "c75b308f869baa126c24ec8d10d0c08eb43e8ac7b56dff8a9a9d4f923644ab44", checked := Tryz.checked }
namespace Rows
def none {H : Type} : Left H := { results := [], args := [] }

/- WHAT THE LISTED PACKAGE-LEVEL VARIABLES READ AS WHEN THE CALL BEGINS. Each datum BY PROGRAM (the guide's laid-datum.mjs) off the statement by which the dump's own 'gosem.cut.vars' lays the variable. In a bare row this is a premise. The card (YtclffhpdekepkaaGreatDoorCards.lean) ties it to the program's text. -/
def laid_unicode_utf8_acceptRanges {H : Type} : DataW H := .agg [.agg [.lit (.int .u8 128), .lit (.int .u8 191)], .agg [.lit (.int .u8 160), .lit (.int .u8 191)], .agg [.lit (.int .u8 128), .lit (.int .u8 159)], .agg [.lit (.int .u8 144), .lit (.int .u8 191)], .agg [.lit (.int .u8 128), .lit (.int .u8 143)], .agg [.lit (.int .u8 0), .lit (.int .u8 0)], .agg [.lit (.int .u8 0), .lit (.int .u8 0)], .agg [.lit (.int .u8 0), .lit (.int .u8 0)], .agg [.lit (.int .u8 0), .lit (.int .u8 0)], .agg [.lit (.int .u8 0), .lit (.int .u8 0)], .agg [.lit (.int .u8 0), .lit (.int .u8 0)], .agg [.lit (.int .u8 0), .lit (.int .u8 0)], .agg [.lit (.int .u8 0), .lit (.int .u8 0)], .agg [.lit (.int .u8 0), .lit (.int .u8 0)], .agg [.lit (.int .u8 0), .lit (.int .u8 0)], .agg [.lit (.int .u8 0), .lit (.int .u8 0)]]
/-- One of Go's own tables, pinned by name: the form's constant. -/
def laid_unicode_utf8_first : DataW Unit := Go.Pinned.utf8First

/-- 'umlautlaw7.TailorRows': WHATEVER THE INPUT: true; the input reads as it did. -/
def tailorRowsSpec : ChangeSpec := { name := "tailorRows", fn := fun _ => fun
  | [d] => { results := [.lit (.bool true)], args := [d] }
  | _ => none }
def tailorRowsRow : OpenClaim := { program := "ytclffhpdekepkaagreatdoor", sum := "c75b308f869baa126c24ec8d10d0c08eb43e8ac7b56dff8a9a9d4f923644ab44", func := "umlaut/umlautlaw7.TailorRows", spec := "tailorRows", inPlace := ["maps.clone"], unfollowed := true, recurses := true, named := ["unicode/utf8.first", "unicode/utf8.acceptRanges"], plainKeys := false, apart := false, laid := [("unicode/utf8.acceptRanges", laid_unicode_utf8_acceptRanges), ("unicode/utf8.first", laid_unicode_utf8_first)] }
def TailorRowsSaid : Prop := tailorRowsRow.holds Tryz.pinned (OpenSpec.ofChange tailorRowsSpec)

/-- ITS FALSE NEIGHBOUR: 'it returns false'. Refute it at one input. -/
def tailorRowsWrong : ChangeSpec := { name := "tailorRows", fn := fun _ => fun
  | [d] => { results := [.lit (.bool false)], args := [d] }
  | _ => none }
def TailorRowsWrongFalsely : Prop := tailorRowsRow.holds Tryz.pinned (OpenSpec.ofChange tailorRowsWrong)

/-- 'umlautlaw7.TailorFull': WHATEVER THE INPUT: true; the input reads as it did. -/
def tailorFullSpec : ChangeSpec := { name := "tailorFull", fn := fun _ => fun
  | [d] => { results := [.lit (.bool true)], args := [d] }
  | _ => none }
def tailorFullRow : OpenClaim := { program := "ytclffhpdekepkaagreatdoor", sum := "c75b308f869baa126c24ec8d10d0c08eb43e8ac7b56dff8a9a9d4f923644ab44", func := "umlaut/umlautlaw7.TailorFull", spec := "tailorFull", inPlace := ["maps.clone"], unfollowed := true, recurses := true, named := ["unicode/utf8.first", "unicode/utf8.acceptRanges"], plainKeys := false, apart := false, laid := [("unicode/utf8.acceptRanges", laid_unicode_utf8_acceptRanges), ("unicode/utf8.first", laid_unicode_utf8_first)] }
def TailorFullSaid : Prop := tailorFullRow.holds Tryz.pinned (OpenSpec.ofChange tailorFullSpec)

/-- ITS FALSE NEIGHBOUR: 'it returns false'. Refute it at one input. -/
def tailorFullWrong : ChangeSpec := { name := "tailorFull", fn := fun _ => fun
  | [d] => { results := [.lit (.bool false)], args := [d] }
  | _ => none }
def TailorFullWrongFalsely : Prop := tailorFullRow.holds Tryz.pinned (OpenSpec.ofChange tailorFullWrong)

/-- 'umlautlaw7.TailorKeeps': WHATEVER THE INPUT: true; the input reads as it did. -/
def tailorKeepsSpec : ChangeSpec := { name := "tailorKeeps", fn := fun _ => fun
  | [d1, d2, d3] => { results := [.lit (.bool true)], args := [d1, d2, d3] }
  | _ => none }
def tailorKeepsRow : OpenClaim := { program := "ytclffhpdekepkaagreatdoor", sum := "c75b308f869baa126c24ec8d10d0c08eb43e8ac7b56dff8a9a9d4f923644ab44", func := "umlaut/umlautlaw7.TailorKeeps", spec := "tailorKeeps", inPlace := ["maps.clone"], unfollowed := true, recurses := true, named := ["unicode/utf8.first", "unicode/utf8.acceptRanges"], plainKeys := false, apart := false, laid := [("unicode/utf8.acceptRanges", laid_unicode_utf8_acceptRanges), ("unicode/utf8.first", laid_unicode_utf8_first)] }
def TailorKeepsSaid : Prop := tailorKeepsRow.holds Tryz.pinned (OpenSpec.ofChange tailorKeepsSpec)

/-- ITS FALSE NEIGHBOUR: 'it returns false'. Refute it at one input. -/
def tailorKeepsWrong : ChangeSpec := { name := "tailorKeeps", fn := fun _ => fun
  | [d1, d2, d3] => { results := [.lit (.bool false)], args := [d1, d2, d3] }
  | _ => none }
def TailorKeepsWrongFalsely : Prop := tailorKeepsRow.holds Tryz.pinned (OpenSpec.ofChange tailorKeepsWrong)

/-- 'umlautlaw7.TailorPlaces': WHATEVER THE INPUT: true; the input reads as it did. -/
def tailorPlacesSpec : ChangeSpec := { name := "tailorPlaces", fn := fun _ => fun
  | [d1, d2, d3, d4] => { results := [.lit (.bool true)], args := [d1, d2, d3, d4] }
  | _ => none }
def tailorPlacesRow : OpenClaim := { program := "ytclffhpdekepkaagreatdoor", sum := "c75b308f869baa126c24ec8d10d0c08eb43e8ac7b56dff8a9a9d4f923644ab44", func := "umlaut/umlautlaw7.TailorPlaces", spec := "tailorPlaces", inPlace := ["maps.clone"], unfollowed := true, recurses := true, named := ["unicode/utf8.first", "unicode/utf8.acceptRanges"], plainKeys := false, apart := false, laid := [("unicode/utf8.acceptRanges", laid_unicode_utf8_acceptRanges), ("unicode/utf8.first", laid_unicode_utf8_first)] }
def TailorPlacesSaid : Prop := tailorPlacesRow.holds Tryz.pinned (OpenSpec.ofChange tailorPlacesSpec)

/-- ITS FALSE NEIGHBOUR: 'it returns false'. Refute it at one input. -/
def tailorPlacesWrong : ChangeSpec := { name := "tailorPlaces", fn := fun _ => fun
  | [d1, d2, d3, d4] => { results := [.lit (.bool false)], args := [d1, d2, d3, d4] }
  | _ => none }
def TailorPlacesWrongFalsely : Prop := tailorPlacesRow.holds Tryz.pinned (OpenSpec.ofChange tailorPlacesWrong)

/-- 'umlautlaw14.KencOrders': WHATEVER THE INPUT: true; the input reads as it did. -/
def kencOrdersSpec : ChangeSpec := { name := "kencOrders", fn := fun _ => fun
  | [d1, d2, d3, d4, d5] => { results := [.lit (.bool true)], args := [d1, d2, d3, d4, d5] }
  | _ => none }
def kencOrdersRow : OpenClaim := { program := "ytclffhpdekepkaagreatdoor", sum := "c75b308f869baa126c24ec8d10d0c08eb43e8ac7b56dff8a9a9d4f923644ab44", func := "umlaut/umlautlaw14.KencOrders", spec := "kencOrders", inPlace := ["maps.clone", "internal/bytealg.CountString", "internal/bytealg.IndexByteString", "internal/bytealg.IndexString", "internal/abi.NoEscape", "internal/bytealg.MakeNoZero"], unfollowed := true, recurses := true, named := ["unicode/utf8.first", "unicode/utf8.acceptRanges", "internal/bytealg.MaxLen"], plainKeys := false, apart := false, laid := [("unicode/utf8.acceptRanges", laid_unicode_utf8_acceptRanges), ("unicode/utf8.first", laid_unicode_utf8_first)] }
def KencOrdersSaid : Prop := kencOrdersRow.holds Tryz.pinned (OpenSpec.ofChange kencOrdersSpec)

/-- ITS FALSE NEIGHBOUR: 'it returns false'. Refute it at one input. -/
def kencOrdersWrong : ChangeSpec := { name := "kencOrders", fn := fun _ => fun
  | [d1, d2, d3, d4, d5] => { results := [.lit (.bool false)], args := [d1, d2, d3, d4, d5] }
  | _ => none }
def KencOrdersWrongFalsely : Prop := kencOrdersRow.holds Tryz.pinned (OpenSpec.ofChange kencOrdersWrong)

/-- 'umlautlaw14.KencIs': WHATEVER THE INPUT: true; the input reads as it did. -/
def kencIsSpec : ChangeSpec := { name := "kencIs", fn := fun _ => fun
  | [d1, d2, d3] => { results := [.lit (.bool true)], args := [d1, d2, d3] }
  | _ => none }
def kencIsRow : OpenClaim := { program := "ytclffhpdekepkaagreatdoor", sum := "c75b308f869baa126c24ec8d10d0c08eb43e8ac7b56dff8a9a9d4f923644ab44", func := "umlaut/umlautlaw14.KencIs", spec := "kencIs", inPlace := ["maps.clone", "internal/bytealg.CountString", "internal/bytealg.IndexByteString", "internal/bytealg.IndexString", "internal/abi.NoEscape", "internal/bytealg.MakeNoZero"], unfollowed := true, recurses := true, named := ["unicode/utf8.first", "unicode/utf8.acceptRanges", "internal/bytealg.MaxLen"], plainKeys := false, apart := false, laid := [("unicode/utf8.acceptRanges", laid_unicode_utf8_acceptRanges), ("unicode/utf8.first", laid_unicode_utf8_first)] }
def KencIsSaid : Prop := kencIsRow.holds Tryz.pinned (OpenSpec.ofChange kencIsSpec)

/-- ITS FALSE NEIGHBOUR: 'it returns false'. Refute it at one input. -/
def kencIsWrong : ChangeSpec := { name := "kencIs", fn := fun _ => fun
  | [d1, d2, d3] => { results := [.lit (.bool false)], args := [d1, d2, d3] }
  | _ => none }
def KencIsWrongFalsely : Prop := kencIsRow.holds Tryz.pinned (OpenSpec.ofChange kencIsWrong)

/- THE SECOND FORM. 'bulk': how many values and letters a reading holds, each counted each time it is reached (what is shared counts as often as it is met; a slice's spare places count too). A statement '..UptoSaid' is the law's where the arguments, and the package variables that the reading takes, are together of bulk at most 1048576: NARROWER than '..Said'. Prove '..Said' where nothing that the law and all that it calls make is longer than what came in: it says more and counts as full. Else prove '..UptoSaid'. A law counts once. -/
mutual
def uptoBulk {H : Type} : DataW H → Nat
  | .lit (.string bytes) => bytes.length + 1
  | .lit _ => 1
  | .nil => 1
  | .ptr d => uptoBulk d + 1
  | .slice elems spare => uptoBulkAll elems + uptoBulkAll spare + 1
  | .agg parts => uptoBulkAll parts + 1
  | .iface _ d => uptoBulk d + 1
  | .map entries => uptoBulkEntries entries + 1
  | .held _ => 1
def uptoBulkAll {H : Type} : List (DataW H) → Nat
  | [] => 0
  | d :: r => uptoBulk d + uptoBulkAll r
def uptoBulkEntries {H : Type} : List (Lit × DataW H) → Nat
  | [] => 0
  | x :: r => uptoBulkEntry x + uptoBulkEntries r
def uptoBulkEntry {H : Type} : Lit × DataW H → Nat
  | (.string bytes, d) => bytes.length + uptoBulk d + 1
  | (_, d) => uptoBulk d + 1
 end
def uptoSmall : (H : Type) → List (DataW H) → Bool := fun _ ds => decide (uptoBulkAll ds ≤ 1048576)
def OpenSpec.upto (s : _root_.Go.ChangeSpec) : _root_.Go.OpenSpec := { _root_.Go.OpenSpec.ofChange s with cond := some uptoSmall }

/-- 'umlautlaw7.TailorRows', WHERE WHAT IT READS IS OF BULK AT MOST 1048576: true; the input reads as it did. -/
def tailorRowsUptoRow : OpenClaim := { program := "ytclffhpdekepkaagreatdoor", sum := "c75b308f869baa126c24ec8d10d0c08eb43e8ac7b56dff8a9a9d4f923644ab44", func := "umlaut/umlautlaw7.TailorRows", spec := "tailorRows", inPlace := ["maps.clone"], unfollowed := true, recurses := true, named := ["unicode/utf8.first", "unicode/utf8.acceptRanges"], plainKeys := false, apart := false, laid := [("unicode/utf8.acceptRanges", laid_unicode_utf8_acceptRanges), ("unicode/utf8.first", laid_unicode_utf8_first)], narrowed := true }
def TailorRowsUptoSaid : Prop := tailorRowsUptoRow.holds Tryz.pinned (OpenSpec.upto tailorRowsSpec)

/-- 'umlautlaw7.TailorFull', WHERE WHAT IT READS IS OF BULK AT MOST 1048576: true; the input reads as it did. -/
def tailorFullUptoRow : OpenClaim := { program := "ytclffhpdekepkaagreatdoor", sum := "c75b308f869baa126c24ec8d10d0c08eb43e8ac7b56dff8a9a9d4f923644ab44", func := "umlaut/umlautlaw7.TailorFull", spec := "tailorFull", inPlace := ["maps.clone"], unfollowed := true, recurses := true, named := ["unicode/utf8.first", "unicode/utf8.acceptRanges"], plainKeys := false, apart := false, laid := [("unicode/utf8.acceptRanges", laid_unicode_utf8_acceptRanges), ("unicode/utf8.first", laid_unicode_utf8_first)], narrowed := true }
def TailorFullUptoSaid : Prop := tailorFullUptoRow.holds Tryz.pinned (OpenSpec.upto tailorFullSpec)

/-- 'umlautlaw7.TailorKeeps', WHERE WHAT IT READS IS OF BULK AT MOST 1048576: true; the input reads as it did. -/
def tailorKeepsUptoRow : OpenClaim := { program := "ytclffhpdekepkaagreatdoor", sum := "c75b308f869baa126c24ec8d10d0c08eb43e8ac7b56dff8a9a9d4f923644ab44", func := "umlaut/umlautlaw7.TailorKeeps", spec := "tailorKeeps", inPlace := ["maps.clone"], unfollowed := true, recurses := true, named := ["unicode/utf8.first", "unicode/utf8.acceptRanges"], plainKeys := false, apart := false, laid := [("unicode/utf8.acceptRanges", laid_unicode_utf8_acceptRanges), ("unicode/utf8.first", laid_unicode_utf8_first)], narrowed := true }
def TailorKeepsUptoSaid : Prop := tailorKeepsUptoRow.holds Tryz.pinned (OpenSpec.upto tailorKeepsSpec)

/-- 'umlautlaw7.TailorPlaces', WHERE WHAT IT READS IS OF BULK AT MOST 1048576: true; the input reads as it did. -/
def tailorPlacesUptoRow : OpenClaim := { program := "ytclffhpdekepkaagreatdoor", sum := "c75b308f869baa126c24ec8d10d0c08eb43e8ac7b56dff8a9a9d4f923644ab44", func := "umlaut/umlautlaw7.TailorPlaces", spec := "tailorPlaces", inPlace := ["maps.clone"], unfollowed := true, recurses := true, named := ["unicode/utf8.first", "unicode/utf8.acceptRanges"], plainKeys := false, apart := false, laid := [("unicode/utf8.acceptRanges", laid_unicode_utf8_acceptRanges), ("unicode/utf8.first", laid_unicode_utf8_first)], narrowed := true }
def TailorPlacesUptoSaid : Prop := tailorPlacesUptoRow.holds Tryz.pinned (OpenSpec.upto tailorPlacesSpec)

/-- 'umlautlaw14.KencOrders', WHERE WHAT IT READS IS OF BULK AT MOST 1048576: true; the input reads as it did. -/
def kencOrdersUptoRow : OpenClaim := { program := "ytclffhpdekepkaagreatdoor", sum := "c75b308f869baa126c24ec8d10d0c08eb43e8ac7b56dff8a9a9d4f923644ab44", func := "umlaut/umlautlaw14.KencOrders", spec := "kencOrders", inPlace := ["maps.clone", "internal/bytealg.CountString", "internal/bytealg.IndexByteString", "internal/bytealg.IndexString", "internal/abi.NoEscape", "internal/bytealg.MakeNoZero"], unfollowed := true, recurses := true, named := ["unicode/utf8.first", "unicode/utf8.acceptRanges", "internal/bytealg.MaxLen"], plainKeys := false, apart := false, laid := [("unicode/utf8.acceptRanges", laid_unicode_utf8_acceptRanges), ("unicode/utf8.first", laid_unicode_utf8_first)], narrowed := true }
def KencOrdersUptoSaid : Prop := kencOrdersUptoRow.holds Tryz.pinned (OpenSpec.upto kencOrdersSpec)

/-- 'umlautlaw14.KencIs', WHERE WHAT IT READS IS OF BULK AT MOST 1048576: true; the input reads as it did. -/
def kencIsUptoRow : OpenClaim := { program := "ytclffhpdekepkaagreatdoor", sum := "c75b308f869baa126c24ec8d10d0c08eb43e8ac7b56dff8a9a9d4f923644ab44", func := "umlaut/umlautlaw14.KencIs", spec := "kencIs", inPlace := ["maps.clone", "internal/bytealg.CountString", "internal/bytealg.IndexByteString", "internal/bytealg.IndexString", "internal/abi.NoEscape", "internal/bytealg.MakeNoZero"], unfollowed := true, recurses := true, named := ["unicode/utf8.first", "unicode/utf8.acceptRanges", "internal/bytealg.MaxLen"], plainKeys := false, apart := false, laid := [("unicode/utf8.acceptRanges", laid_unicode_utf8_acceptRanges), ("unicode/utf8.first", laid_unicode_utf8_first)], narrowed := true }
def KencIsUptoSaid : Prop := kencIsUptoRow.holds Tryz.pinned (OpenSpec.upto kencIsSpec)

end Rows
end Go.Proofs.YtclffhpdekepkaaGreatDoor
