/-
  NARROWER THAN 'FOR EVERY INPUT', by the rows' own cells (each row's printed sentence says how): ExportText: laid · CallsNobody: laid · PathPoints: laid · PathParts: laid · PathNobody: laid · PathHome: laid · PathUp: laid · CallsThere: laid · CallsTwice: laid · CallsDo: laid · CallsRead: laid · CallsSame: laid · ExportPaths: laid · ExportCounts: laid.
  DERIVED. THE GIVEN ROWS OF THIS SEAT. 14 by the template 'for every input the law returns true; each argument reads behind the call as it read before'; 0 by the template 'total and deterministic' (their statements: YtfbjiaedfmdcfaaGreatDoorTotals.lean).
  GIVEN WITH THE SEED: the statements are not yours to turn. If you find one false, say at which input.
  Laid BY PROGRAM, IN A SANDBOX (cutbox-rows.mjs): the forced cells as the released guide's own fill.sh prints them over the translation 2cb8a542d82ccb9c… (all of the seat's roots in one cut). By AI agents, Wed Nov 11 2026. No macro, syntax, notation, axiom, sorry.
-/
import Derived.Test.YtfbjiaedfmdcfaaGreatDoorChecked
import GoSem.PinnedTables
import GoSem.Claim
import GoSem.ClaimJoined
import GoSem.ClaimMapViews
import Derived.JoinedTies
import Derived.KernelRfl
namespace Go.Proofs.YtfbjiaedfmdcfaaGreatDoor
/- THE CELL 'sum', in the pinned program and in every row, IS THE sha256 OF THE DUMP (.gsa) THAT YtfbjiaedfmdcfaaGreatDoorProg.lean LOADS. Nothing in Lean hashes anything: it is a label: what it is worth is what the hold of that sum in a sandbox is worth. -/
noncomputable def Tryz.pinned : Pinned := { name := "ytfbjiaedfmdcfaagreatdoor", sum := "2cb8a542d82ccb9c7a2f116d32f6840200889f66cec80c56b20727c30b7fec9e", checked := Tryz.checked }
namespace Rows
def none {H : Type} : Left H := { results := [], args := [] }

/- WHAT THE LISTED PACKAGE-LEVEL VARIABLES READ AS WHEN THE CALL BEGINS. Each datum BY PROGRAM (the guide's laid-datum.mjs) off the statement by which the dump's own 'gosem.cut.vars' lays the variable. In a bare row this is a premise. The card (YtfbjiaedfmdcfaaGreatDoorCards.lean) ties it to the program's text. -/
def laid_math_bits_deBruijn32tab {H : Type} : DataW H := .agg [.lit (.int .u8 0), .lit (.int .u8 1), .lit (.int .u8 28), .lit (.int .u8 2), .lit (.int .u8 29), .lit (.int .u8 14), .lit (.int .u8 24), .lit (.int .u8 3), .lit (.int .u8 30), .lit (.int .u8 22), .lit (.int .u8 20), .lit (.int .u8 15), .lit (.int .u8 25), .lit (.int .u8 17), .lit (.int .u8 4), .lit (.int .u8 8), .lit (.int .u8 31), .lit (.int .u8 27), .lit (.int .u8 13), .lit (.int .u8 23), .lit (.int .u8 21), .lit (.int .u8 19), .lit (.int .u8 16), .lit (.int .u8 7), .lit (.int .u8 26), .lit (.int .u8 12), .lit (.int .u8 18), .lit (.int .u8 6), .lit (.int .u8 11), .lit (.int .u8 5), .lit (.int .u8 10), .lit (.int .u8 9)]
def laid_math_bits_deBruijn64tab {H : Type} : DataW H := .agg [.lit (.int .u8 0), .lit (.int .u8 1), .lit (.int .u8 56), .lit (.int .u8 2), .lit (.int .u8 57), .lit (.int .u8 49), .lit (.int .u8 28), .lit (.int .u8 3), .lit (.int .u8 61), .lit (.int .u8 58), .lit (.int .u8 42), .lit (.int .u8 50), .lit (.int .u8 38), .lit (.int .u8 29), .lit (.int .u8 17), .lit (.int .u8 4), .lit (.int .u8 62), .lit (.int .u8 47), .lit (.int .u8 59), .lit (.int .u8 36), .lit (.int .u8 45), .lit (.int .u8 43), .lit (.int .u8 51), .lit (.int .u8 22), .lit (.int .u8 53), .lit (.int .u8 39), .lit (.int .u8 33), .lit (.int .u8 30), .lit (.int .u8 24), .lit (.int .u8 18), .lit (.int .u8 12), .lit (.int .u8 5), .lit (.int .u8 63), .lit (.int .u8 55), .lit (.int .u8 48), .lit (.int .u8 27), .lit (.int .u8 60), .lit (.int .u8 41), .lit (.int .u8 37), .lit (.int .u8 16), .lit (.int .u8 46), .lit (.int .u8 35), .lit (.int .u8 44), .lit (.int .u8 21), .lit (.int .u8 52), .lit (.int .u8 32), .lit (.int .u8 23), .lit (.int .u8 11), .lit (.int .u8 54), .lit (.int .u8 26), .lit (.int .u8 40), .lit (.int .u8 15), .lit (.int .u8 34), .lit (.int .u8 20), .lit (.int .u8 31), .lit (.int .u8 10), .lit (.int .u8 25), .lit (.int .u8 14), .lit (.int .u8 19), .lit (.int .u8 9), .lit (.int .u8 13), .lit (.int .u8 8), .lit (.int .u8 7), .lit (.int .u8 6)]
def laid_internal_strconv_uint64pow10 {H : Type} : DataW H := .agg [.lit (.int .u64 1), .lit (.int .u64 10), .lit (.int .u64 100), .lit (.int .u64 1000), .lit (.int .u64 10000), .lit (.int .u64 100000), .lit (.int .u64 1000000), .lit (.int .u64 10000000), .lit (.int .u64 100000000), .lit (.int .u64 1000000000), .lit (.int .u64 10000000000), .lit (.int .u64 100000000000), .lit (.int .u64 1000000000000), .lit (.int .u64 10000000000000), .lit (.int .u64 100000000000000), .lit (.int .u64 1000000000000000), .lit (.int .u64 10000000000000000), .lit (.int .u64 100000000000000000), .lit (.int .u64 1000000000000000000), .lit (.int .u64 10000000000000000000)]
def laid_unicode_utf8_acceptRanges {H : Type} : DataW H := .agg [.agg [.lit (.int .u8 128), .lit (.int .u8 191)], .agg [.lit (.int .u8 160), .lit (.int .u8 191)], .agg [.lit (.int .u8 128), .lit (.int .u8 159)], .agg [.lit (.int .u8 144), .lit (.int .u8 191)], .agg [.lit (.int .u8 128), .lit (.int .u8 143)], .agg [.lit (.int .u8 0), .lit (.int .u8 0)], .agg [.lit (.int .u8 0), .lit (.int .u8 0)], .agg [.lit (.int .u8 0), .lit (.int .u8 0)], .agg [.lit (.int .u8 0), .lit (.int .u8 0)], .agg [.lit (.int .u8 0), .lit (.int .u8 0)], .agg [.lit (.int .u8 0), .lit (.int .u8 0)], .agg [.lit (.int .u8 0), .lit (.int .u8 0)], .agg [.lit (.int .u8 0), .lit (.int .u8 0)], .agg [.lit (.int .u8 0), .lit (.int .u8 0)], .agg [.lit (.int .u8 0), .lit (.int .u8 0)], .agg [.lit (.int .u8 0), .lit (.int .u8 0)]]
/-- One of Go's own tables, pinned by name: the form's constant. -/
def laid_unicode_utf8_first : DataW Unit := Go.Pinned.utf8First

/-- 'thimblelaw22.ExportText': WHATEVER THE INPUT: true; the input reads as it did. -/
def exportTextSpec : ChangeSpec := { name := "exportText", fn := fun _ => fun
  | [d] => { results := [.lit (.bool true)], args := [d] }
  | _ => none }
def exportTextRow : OpenClaim := { program := "ytfbjiaedfmdcfaagreatdoor", sum := "2cb8a542d82ccb9c7a2f116d32f6840200889f66cec80c56b20727c30b7fec9e", func := "thimble/thimblelaw22.ExportText", spec := "exportText", inPlace := ["internal/bytealg.IndexByteString", "internal/bytealg.IndexString"], unfollowed := true, recurses := true, named := ["unicode/utf8.first", "unicode/utf8.acceptRanges", "internal/bytealg.MaxLen", "internal/strconv.uint64pow10", "math/bits.deBruijn32tab", "math/bits.deBruijn64tab"], plainKeys := false, apart := false, laid := [("math/bits.deBruijn32tab", laid_math_bits_deBruijn32tab), ("math/bits.deBruijn64tab", laid_math_bits_deBruijn64tab), ("internal/strconv.uint64pow10", laid_internal_strconv_uint64pow10), ("unicode/utf8.acceptRanges", laid_unicode_utf8_acceptRanges), ("unicode/utf8.first", laid_unicode_utf8_first)] }
def ExportTextSaid : Prop := exportTextRow.holds Tryz.pinned (OpenSpec.ofChange exportTextSpec)

/-- ITS FALSE NEIGHBOUR: 'it returns false'. Refute it at one input. -/
def exportTextWrong : ChangeSpec := { name := "exportText", fn := fun _ => fun
  | [d] => { results := [.lit (.bool false)], args := [d] }
  | _ => none }
def ExportTextWrongFalsely : Prop := exportTextRow.holds Tryz.pinned (OpenSpec.ofChange exportTextWrong)

/-- 'thimblelaw16.CallsNobody': WHATEVER THE INPUT: true; the input reads as it did. -/
def callsNobodySpec : ChangeSpec := { name := "callsNobody", fn := fun _ => fun
  | [d1, d2, d3] => { results := [.lit (.bool true)], args := [d1, d2, d3] }
  | _ => none }
def callsNobodyRow : OpenClaim := { program := "ytfbjiaedfmdcfaagreatdoor", sum := "2cb8a542d82ccb9c7a2f116d32f6840200889f66cec80c56b20727c30b7fec9e", func := "thimble/thimblelaw16.CallsNobody", spec := "callsNobody", inPlace := ["internal/bytealg.IndexByteString", "internal/bytealg.IndexString"], unfollowed := true, recurses := true, named := ["internal/bytealg.MaxLen", "unicode/utf8.first", "unicode/utf8.acceptRanges"], plainKeys := false, apart := false, laid := [("unicode/utf8.acceptRanges", laid_unicode_utf8_acceptRanges), ("unicode/utf8.first", laid_unicode_utf8_first)] }
def CallsNobodySaid : Prop := callsNobodyRow.holds Tryz.pinned (OpenSpec.ofChange callsNobodySpec)

/-- ITS FALSE NEIGHBOUR: 'it returns false'. Refute it at one input. -/
def callsNobodyWrong : ChangeSpec := { name := "callsNobody", fn := fun _ => fun
  | [d1, d2, d3] => { results := [.lit (.bool false)], args := [d1, d2, d3] }
  | _ => none }
def CallsNobodyWrongFalsely : Prop := callsNobodyRow.holds Tryz.pinned (OpenSpec.ofChange callsNobodyWrong)

/-- 'thimblelaw15.PathPoints': WHATEVER THE INPUT: true; the input reads as it did. -/
def pathPointsSpec : ChangeSpec := { name := "pathPoints", fn := fun _ => fun
  | [d1, d2, d3, d4] => { results := [.lit (.bool true)], args := [d1, d2, d3, d4] }
  | _ => none }
def pathPointsRow : OpenClaim := { program := "ytfbjiaedfmdcfaagreatdoor", sum := "2cb8a542d82ccb9c7a2f116d32f6840200889f66cec80c56b20727c30b7fec9e", func := "thimble/thimblelaw15.PathPoints", spec := "pathPoints", inPlace := ["maps.clone", "internal/bytealg.IndexByteString", "internal/bytealg.IndexString", "slices.overlaps[thimble/api.Op]"], unfollowed := true, recurses := true, named := ["internal/bytealg.MaxLen", "unicode/utf8.first", "unicode/utf8.acceptRanges"], plainKeys := false, apart := false, laid := [("unicode/utf8.acceptRanges", laid_unicode_utf8_acceptRanges), ("unicode/utf8.first", laid_unicode_utf8_first)] }
def PathPointsSaid : Prop := pathPointsRow.holds Tryz.pinned (OpenSpec.ofChange pathPointsSpec)

/-- ITS FALSE NEIGHBOUR: 'it returns false'. Refute it at one input. -/
def pathPointsWrong : ChangeSpec := { name := "pathPoints", fn := fun _ => fun
  | [d1, d2, d3, d4] => { results := [.lit (.bool false)], args := [d1, d2, d3, d4] }
  | _ => none }
def PathPointsWrongFalsely : Prop := pathPointsRow.holds Tryz.pinned (OpenSpec.ofChange pathPointsWrong)

/-- 'thimblelaw15.PathParts': WHATEVER THE INPUT: true; the input reads as it did. -/
def pathPartsSpec : ChangeSpec := { name := "pathParts", fn := fun _ => fun
  | [d] => { results := [.lit (.bool true)], args := [d] }
  | _ => none }
def pathPartsRow : OpenClaim := { program := "ytfbjiaedfmdcfaagreatdoor", sum := "2cb8a542d82ccb9c7a2f116d32f6840200889f66cec80c56b20727c30b7fec9e", func := "thimble/thimblelaw15.PathParts", spec := "pathParts", inPlace := ["maps.clone", "internal/bytealg.IndexByteString", "internal/bytealg.IndexString", "slices.overlaps[thimble/api.Op]"], unfollowed := true, recurses := true, named := ["internal/bytealg.MaxLen", "unicode/utf8.first", "unicode/utf8.acceptRanges"], plainKeys := false, apart := false, laid := [("unicode/utf8.acceptRanges", laid_unicode_utf8_acceptRanges), ("unicode/utf8.first", laid_unicode_utf8_first)] }
def PathPartsSaid : Prop := pathPartsRow.holds Tryz.pinned (OpenSpec.ofChange pathPartsSpec)

/-- ITS FALSE NEIGHBOUR: 'it returns false'. Refute it at one input. -/
def pathPartsWrong : ChangeSpec := { name := "pathParts", fn := fun _ => fun
  | [d] => { results := [.lit (.bool false)], args := [d] }
  | _ => none }
def PathPartsWrongFalsely : Prop := pathPartsRow.holds Tryz.pinned (OpenSpec.ofChange pathPartsWrong)

/-- 'thimblelaw15.PathNobody': WHATEVER THE INPUT: true; the input reads as it did. -/
def pathNobodySpec : ChangeSpec := { name := "pathNobody", fn := fun _ => fun
  | [d1, d2] => { results := [.lit (.bool true)], args := [d1, d2] }
  | _ => none }
def pathNobodyRow : OpenClaim := { program := "ytfbjiaedfmdcfaagreatdoor", sum := "2cb8a542d82ccb9c7a2f116d32f6840200889f66cec80c56b20727c30b7fec9e", func := "thimble/thimblelaw15.PathNobody", spec := "pathNobody", inPlace := ["maps.clone", "internal/bytealg.IndexByteString", "internal/bytealg.IndexString", "slices.overlaps[thimble/api.Op]"], unfollowed := true, recurses := true, named := ["internal/bytealg.MaxLen", "unicode/utf8.first", "unicode/utf8.acceptRanges"], plainKeys := false, apart := false, laid := [("unicode/utf8.acceptRanges", laid_unicode_utf8_acceptRanges), ("unicode/utf8.first", laid_unicode_utf8_first)] }
def PathNobodySaid : Prop := pathNobodyRow.holds Tryz.pinned (OpenSpec.ofChange pathNobodySpec)

/-- ITS FALSE NEIGHBOUR: 'it returns false'. Refute it at one input. -/
def pathNobodyWrong : ChangeSpec := { name := "pathNobody", fn := fun _ => fun
  | [d1, d2] => { results := [.lit (.bool false)], args := [d1, d2] }
  | _ => none }
def PathNobodyWrongFalsely : Prop := pathNobodyRow.holds Tryz.pinned (OpenSpec.ofChange pathNobodyWrong)

/-- 'thimblelaw15.PathHome': WHATEVER THE INPUT: true; the input reads as it did. -/
def pathHomeSpec : ChangeSpec := { name := "pathHome", fn := fun _ => fun
  | [d1, d2] => { results := [.lit (.bool true)], args := [d1, d2] }
  | _ => none }
def pathHomeRow : OpenClaim := { program := "ytfbjiaedfmdcfaagreatdoor", sum := "2cb8a542d82ccb9c7a2f116d32f6840200889f66cec80c56b20727c30b7fec9e", func := "thimble/thimblelaw15.PathHome", spec := "pathHome", inPlace := ["maps.clone", "internal/bytealg.IndexByteString", "internal/bytealg.IndexString", "slices.overlaps[thimble/api.Op]", "internal/abi.NoEscape", "internal/bytealg.MakeNoZero"], unfollowed := true, recurses := true, named := ["internal/bytealg.MaxLen", "unicode/utf8.first", "unicode/utf8.acceptRanges"], plainKeys := false, apart := false, laid := [("unicode/utf8.acceptRanges", laid_unicode_utf8_acceptRanges), ("unicode/utf8.first", laid_unicode_utf8_first)] }
def PathHomeSaid : Prop := pathHomeRow.holds Tryz.pinned (OpenSpec.ofChange pathHomeSpec)

/-- ITS FALSE NEIGHBOUR: 'it returns false'. Refute it at one input. -/
def pathHomeWrong : ChangeSpec := { name := "pathHome", fn := fun _ => fun
  | [d1, d2] => { results := [.lit (.bool false)], args := [d1, d2] }
  | _ => none }
def PathHomeWrongFalsely : Prop := pathHomeRow.holds Tryz.pinned (OpenSpec.ofChange pathHomeWrong)

/-- 'thimblelaw15.PathUp': WHATEVER THE INPUT: true; the input reads as it did. -/
def pathUpSpec : ChangeSpec := { name := "pathUp", fn := fun _ => fun
  | [d1, d2] => { results := [.lit (.bool true)], args := [d1, d2] }
  | _ => none }
def pathUpRow : OpenClaim := { program := "ytfbjiaedfmdcfaagreatdoor", sum := "2cb8a542d82ccb9c7a2f116d32f6840200889f66cec80c56b20727c30b7fec9e", func := "thimble/thimblelaw15.PathUp", spec := "pathUp", inPlace := ["maps.clone", "internal/bytealg.IndexByteString", "internal/bytealg.IndexString", "slices.overlaps[thimble/api.Op]", "internal/abi.NoEscape", "internal/bytealg.MakeNoZero"], unfollowed := true, recurses := true, named := ["internal/bytealg.MaxLen", "unicode/utf8.first", "unicode/utf8.acceptRanges"], plainKeys := false, apart := false, laid := [("unicode/utf8.acceptRanges", laid_unicode_utf8_acceptRanges), ("unicode/utf8.first", laid_unicode_utf8_first)] }
def PathUpSaid : Prop := pathUpRow.holds Tryz.pinned (OpenSpec.ofChange pathUpSpec)

/-- ITS FALSE NEIGHBOUR: 'it returns false'. Refute it at one input. -/
def pathUpWrong : ChangeSpec := { name := "pathUp", fn := fun _ => fun
  | [d1, d2] => { results := [.lit (.bool false)], args := [d1, d2] }
  | _ => none }
def PathUpWrongFalsely : Prop := pathUpRow.holds Tryz.pinned (OpenSpec.ofChange pathUpWrong)

/-- 'thimblelaw16.CallsThere': WHATEVER THE INPUT: true; the input reads as it did. -/
def callsThereSpec : ChangeSpec := { name := "callsThere", fn := fun _ => fun
  | [d1, d2, d3] => { results := [.lit (.bool true)], args := [d1, d2, d3] }
  | _ => none }
def callsThereRow : OpenClaim := { program := "ytfbjiaedfmdcfaagreatdoor", sum := "2cb8a542d82ccb9c7a2f116d32f6840200889f66cec80c56b20727c30b7fec9e", func := "thimble/thimblelaw16.CallsThere", spec := "callsThere", inPlace := ["internal/bytealg.IndexByteString", "internal/bytealg.IndexString", "maps.clone", "slices.overlaps[thimble/api.Op]"], unfollowed := true, recurses := true, named := ["internal/bytealg.MaxLen", "unicode/utf8.first", "unicode/utf8.acceptRanges"], plainKeys := false, apart := false, laid := [("unicode/utf8.acceptRanges", laid_unicode_utf8_acceptRanges), ("unicode/utf8.first", laid_unicode_utf8_first)] }
def CallsThereSaid : Prop := callsThereRow.holds Tryz.pinned (OpenSpec.ofChange callsThereSpec)

/-- ITS FALSE NEIGHBOUR: 'it returns false'. Refute it at one input. -/
def callsThereWrong : ChangeSpec := { name := "callsThere", fn := fun _ => fun
  | [d1, d2, d3] => { results := [.lit (.bool false)], args := [d1, d2, d3] }
  | _ => none }
def CallsThereWrongFalsely : Prop := callsThereRow.holds Tryz.pinned (OpenSpec.ofChange callsThereWrong)

/-- 'thimblelaw16.CallsTwice': WHATEVER THE INPUT: true; the input reads as it did. -/
def callsTwiceSpec : ChangeSpec := { name := "callsTwice", fn := fun _ => fun
  | [d1, d2, d3] => { results := [.lit (.bool true)], args := [d1, d2, d3] }
  | _ => none }
def callsTwiceRow : OpenClaim := { program := "ytfbjiaedfmdcfaagreatdoor", sum := "2cb8a542d82ccb9c7a2f116d32f6840200889f66cec80c56b20727c30b7fec9e", func := "thimble/thimblelaw16.CallsTwice", spec := "callsTwice", inPlace := ["internal/bytealg.IndexByteString", "internal/bytealg.IndexString", "maps.clone", "slices.overlaps[thimble/api.Op]"], unfollowed := true, recurses := true, named := ["internal/bytealg.MaxLen", "unicode/utf8.first", "unicode/utf8.acceptRanges"], plainKeys := false, apart := false, laid := [("unicode/utf8.acceptRanges", laid_unicode_utf8_acceptRanges), ("unicode/utf8.first", laid_unicode_utf8_first)] }
def CallsTwiceSaid : Prop := callsTwiceRow.holds Tryz.pinned (OpenSpec.ofChange callsTwiceSpec)

/-- ITS FALSE NEIGHBOUR: 'it returns false'. Refute it at one input. -/
def callsTwiceWrong : ChangeSpec := { name := "callsTwice", fn := fun _ => fun
  | [d1, d2, d3] => { results := [.lit (.bool false)], args := [d1, d2, d3] }
  | _ => none }
def CallsTwiceWrongFalsely : Prop := callsTwiceRow.holds Tryz.pinned (OpenSpec.ofChange callsTwiceWrong)

/-- 'thimblelaw16.CallsDo': WHATEVER THE INPUT: true; the input reads as it did. -/
def callsDoSpec : ChangeSpec := { name := "callsDo", fn := fun _ => fun
  | [d1, d2, d3] => { results := [.lit (.bool true)], args := [d1, d2, d3] }
  | _ => none }
def callsDoRow : OpenClaim := { program := "ytfbjiaedfmdcfaagreatdoor", sum := "2cb8a542d82ccb9c7a2f116d32f6840200889f66cec80c56b20727c30b7fec9e", func := "thimble/thimblelaw16.CallsDo", spec := "callsDo", inPlace := ["internal/bytealg.IndexByteString", "internal/bytealg.IndexString", "maps.clone", "slices.overlaps[thimble/api.Op]"], unfollowed := true, recurses := true, named := ["internal/bytealg.MaxLen", "unicode/utf8.first", "unicode/utf8.acceptRanges"], plainKeys := false, apart := false, laid := [("unicode/utf8.acceptRanges", laid_unicode_utf8_acceptRanges), ("unicode/utf8.first", laid_unicode_utf8_first)] }
def CallsDoSaid : Prop := callsDoRow.holds Tryz.pinned (OpenSpec.ofChange callsDoSpec)

/-- ITS FALSE NEIGHBOUR: 'it returns false'. Refute it at one input. -/
def callsDoWrong : ChangeSpec := { name := "callsDo", fn := fun _ => fun
  | [d1, d2, d3] => { results := [.lit (.bool false)], args := [d1, d2, d3] }
  | _ => none }
def CallsDoWrongFalsely : Prop := callsDoRow.holds Tryz.pinned (OpenSpec.ofChange callsDoWrong)

/-- 'thimblelaw16.CallsRead': WHATEVER THE INPUT: true; the input reads as it did. -/
def callsReadSpec : ChangeSpec := { name := "callsRead", fn := fun _ => fun
  | [d1, d2, d3] => { results := [.lit (.bool true)], args := [d1, d2, d3] }
  | _ => none }
def callsReadRow : OpenClaim := { program := "ytfbjiaedfmdcfaagreatdoor", sum := "2cb8a542d82ccb9c7a2f116d32f6840200889f66cec80c56b20727c30b7fec9e", func := "thimble/thimblelaw16.CallsRead", spec := "callsRead", inPlace := ["internal/bytealg.IndexByteString", "internal/bytealg.IndexString", "maps.clone", "slices.overlaps[thimble/api.Op]"], unfollowed := true, recurses := true, named := ["internal/bytealg.MaxLen", "unicode/utf8.first", "unicode/utf8.acceptRanges"], plainKeys := false, apart := false, laid := [("unicode/utf8.acceptRanges", laid_unicode_utf8_acceptRanges), ("unicode/utf8.first", laid_unicode_utf8_first)] }
def CallsReadSaid : Prop := callsReadRow.holds Tryz.pinned (OpenSpec.ofChange callsReadSpec)

/-- ITS FALSE NEIGHBOUR: 'it returns false'. Refute it at one input. -/
def callsReadWrong : ChangeSpec := { name := "callsRead", fn := fun _ => fun
  | [d1, d2, d3] => { results := [.lit (.bool false)], args := [d1, d2, d3] }
  | _ => none }
def CallsReadWrongFalsely : Prop := callsReadRow.holds Tryz.pinned (OpenSpec.ofChange callsReadWrong)

/-- 'thimblelaw16.CallsSame': WHATEVER THE INPUT: true; the input reads as it did. -/
def callsSameSpec : ChangeSpec := { name := "callsSame", fn := fun _ => fun
  | [d1, d2, d3] => { results := [.lit (.bool true)], args := [d1, d2, d3] }
  | _ => none }
def callsSameRow : OpenClaim := { program := "ytfbjiaedfmdcfaagreatdoor", sum := "2cb8a542d82ccb9c7a2f116d32f6840200889f66cec80c56b20727c30b7fec9e", func := "thimble/thimblelaw16.CallsSame", spec := "callsSame", inPlace := ["internal/bytealg.IndexByteString", "internal/bytealg.IndexString", "maps.clone", "slices.overlaps[thimble/api.Op]"], unfollowed := true, recurses := true, named := ["internal/bytealg.MaxLen", "unicode/utf8.first", "unicode/utf8.acceptRanges"], plainKeys := false, apart := false, laid := [("unicode/utf8.acceptRanges", laid_unicode_utf8_acceptRanges), ("unicode/utf8.first", laid_unicode_utf8_first)] }
def CallsSameSaid : Prop := callsSameRow.holds Tryz.pinned (OpenSpec.ofChange callsSameSpec)

/-- ITS FALSE NEIGHBOUR: 'it returns false'. Refute it at one input. -/
def callsSameWrong : ChangeSpec := { name := "callsSame", fn := fun _ => fun
  | [d1, d2, d3] => { results := [.lit (.bool false)], args := [d1, d2, d3] }
  | _ => none }
def CallsSameWrongFalsely : Prop := callsSameRow.holds Tryz.pinned (OpenSpec.ofChange callsSameWrong)

/-- 'thimblelaw22.ExportPaths': WHATEVER THE INPUT: true; the input reads as it did. -/
def exportPathsSpec : ChangeSpec := { name := "exportPaths", fn := fun _ => fun
  | [d] => { results := [.lit (.bool true)], args := [d] }
  | _ => none }
def exportPathsRow : OpenClaim := { program := "ytfbjiaedfmdcfaagreatdoor", sum := "2cb8a542d82ccb9c7a2f116d32f6840200889f66cec80c56b20727c30b7fec9e", func := "thimble/thimblelaw22.ExportPaths", spec := "exportPaths", inPlace := ["internal/bytealg.IndexByteString", "internal/bytealg.IndexString", "maps.clone", "slices.overlaps[thimble/api.Op]"], unfollowed := true, recurses := true, named := ["unicode/utf8.first", "unicode/utf8.acceptRanges", "internal/bytealg.MaxLen", "internal/strconv.uint64pow10", "math/bits.deBruijn32tab", "math/bits.deBruijn64tab"], plainKeys := false, apart := false, laid := [("math/bits.deBruijn32tab", laid_math_bits_deBruijn32tab), ("math/bits.deBruijn64tab", laid_math_bits_deBruijn64tab), ("internal/strconv.uint64pow10", laid_internal_strconv_uint64pow10), ("unicode/utf8.acceptRanges", laid_unicode_utf8_acceptRanges), ("unicode/utf8.first", laid_unicode_utf8_first)] }
def ExportPathsSaid : Prop := exportPathsRow.holds Tryz.pinned (OpenSpec.ofChange exportPathsSpec)

/-- ITS FALSE NEIGHBOUR: 'it returns false'. Refute it at one input. -/
def exportPathsWrong : ChangeSpec := { name := "exportPaths", fn := fun _ => fun
  | [d] => { results := [.lit (.bool false)], args := [d] }
  | _ => none }
def ExportPathsWrongFalsely : Prop := exportPathsRow.holds Tryz.pinned (OpenSpec.ofChange exportPathsWrong)

/-- 'thimblelaw22.ExportCounts': WHATEVER THE INPUT: true; the input reads as it did. -/
def exportCountsSpec : ChangeSpec := { name := "exportCounts", fn := fun _ => fun
  | [d] => { results := [.lit (.bool true)], args := [d] }
  | _ => none }
def exportCountsRow : OpenClaim := { program := "ytfbjiaedfmdcfaagreatdoor", sum := "2cb8a542d82ccb9c7a2f116d32f6840200889f66cec80c56b20727c30b7fec9e", func := "thimble/thimblelaw22.ExportCounts", spec := "exportCounts", inPlace := ["internal/bytealg.IndexByteString", "internal/bytealg.IndexString", "maps.clone", "slices.overlaps[thimble/api.Op]"], unfollowed := true, recurses := true, named := ["unicode/utf8.first", "unicode/utf8.acceptRanges", "internal/bytealg.MaxLen", "internal/strconv.uint64pow10", "math/bits.deBruijn32tab", "math/bits.deBruijn64tab"], plainKeys := false, apart := false, laid := [("math/bits.deBruijn32tab", laid_math_bits_deBruijn32tab), ("math/bits.deBruijn64tab", laid_math_bits_deBruijn64tab), ("internal/strconv.uint64pow10", laid_internal_strconv_uint64pow10), ("unicode/utf8.acceptRanges", laid_unicode_utf8_acceptRanges), ("unicode/utf8.first", laid_unicode_utf8_first)] }
def ExportCountsSaid : Prop := exportCountsRow.holds Tryz.pinned (OpenSpec.ofChange exportCountsSpec)

/-- ITS FALSE NEIGHBOUR: 'it returns false'. Refute it at one input. -/
def exportCountsWrong : ChangeSpec := { name := "exportCounts", fn := fun _ => fun
  | [d] => { results := [.lit (.bool false)], args := [d] }
  | _ => none }
def ExportCountsWrongFalsely : Prop := exportCountsRow.holds Tryz.pinned (OpenSpec.ofChange exportCountsWrong)

/- THE SECOND FORM. 'bulk': how many values and letters a reading holds, each counted each time it is reached (what is shared counts as often as it is met; a slice's spare places count too). A statement '..UptoSaid' is the law's where the arguments, and the package variables that the reading takes, are together of bulk at most 1048576: NARROWER than '..Said'. Prove '..Said' where nothing that the law and all that it calls make is longer than what came in: it says more and counts as full. Else prove '..UptoSaid'. A law counts once. -/
mutual
def uptoBulk {H : Type} : DataW H → Nat
  | .lit (.string bytes) => bytes.length + 1
  | .lit _ => 1
  | .nil => 1
  | .ptr d => uptoBulk d + 1
  | .slice elems spare => uptoBulkAll elems + uptoBulkAll spare + 1
  | .agg parts => uptoBulkAll parts + 1
  | .iface _ d => uptoBulk d + 1
  | .map entries => uptoBulkEntries entries + 1
  | .held _ => 1
def uptoBulkAll {H : Type} : List (DataW H) → Nat
  | [] => 0
  | d :: r => uptoBulk d + uptoBulkAll r
def uptoBulkEntries {H : Type} : List (Lit × DataW H) → Nat
  | [] => 0
  | x :: r => uptoBulkEntry x + uptoBulkEntries r
def uptoBulkEntry {H : Type} : Lit × DataW H → Nat
  | (.string bytes, d) => bytes.length + uptoBulk d + 1
  | (_, d) => uptoBulk d + 1
 end
def uptoSmall : (H : Type) → List (DataW H) → Bool := fun _ ds => decide (uptoBulkAll ds ≤ 1048576)
def OpenSpec.upto (s : _root_.Go.ChangeSpec) : _root_.Go.OpenSpec := { _root_.Go.OpenSpec.ofChange s with cond := some uptoSmall }

/-- 'thimblelaw22.ExportText', WHERE WHAT IT READS IS OF BULK AT MOST 1048576: true; the input reads as it did. -/
def exportTextUptoRow : OpenClaim := { program := "ytfbjiaedfmdcfaagreatdoor", sum := "2cb8a542d82ccb9c7a2f116d32f6840200889f66cec80c56b20727c30b7fec9e", func := "thimble/thimblelaw22.ExportText", spec := "exportText", inPlace := ["internal/bytealg.IndexByteString", "internal/bytealg.IndexString"], unfollowed := true, recurses := true, named := ["unicode/utf8.first", "unicode/utf8.acceptRanges", "internal/bytealg.MaxLen", "internal/strconv.uint64pow10", "math/bits.deBruijn32tab", "math/bits.deBruijn64tab"], plainKeys := false, apart := false, laid := [("math/bits.deBruijn32tab", laid_math_bits_deBruijn32tab), ("math/bits.deBruijn64tab", laid_math_bits_deBruijn64tab), ("internal/strconv.uint64pow10", laid_internal_strconv_uint64pow10), ("unicode/utf8.acceptRanges", laid_unicode_utf8_acceptRanges), ("unicode/utf8.first", laid_unicode_utf8_first)], narrowed := true }
def ExportTextUptoSaid : Prop := exportTextUptoRow.holds Tryz.pinned (OpenSpec.upto exportTextSpec)

/-- 'thimblelaw16.CallsNobody', WHERE WHAT IT READS IS OF BULK AT MOST 1048576: true; the input reads as it did. -/
def callsNobodyUptoRow : OpenClaim := { program := "ytfbjiaedfmdcfaagreatdoor", sum := "2cb8a542d82ccb9c7a2f116d32f6840200889f66cec80c56b20727c30b7fec9e", func := "thimble/thimblelaw16.CallsNobody", spec := "callsNobody", inPlace := ["internal/bytealg.IndexByteString", "internal/bytealg.IndexString"], unfollowed := true, recurses := true, named := ["internal/bytealg.MaxLen", "unicode/utf8.first", "unicode/utf8.acceptRanges"], plainKeys := false, apart := false, laid := [("unicode/utf8.acceptRanges", laid_unicode_utf8_acceptRanges), ("unicode/utf8.first", laid_unicode_utf8_first)], narrowed := true }
def CallsNobodyUptoSaid : Prop := callsNobodyUptoRow.holds Tryz.pinned (OpenSpec.upto callsNobodySpec)

/-- 'thimblelaw15.PathPoints', WHERE WHAT IT READS IS OF BULK AT MOST 1048576: true; the input reads as it did. -/
def pathPointsUptoRow : OpenClaim := { program := "ytfbjiaedfmdcfaagreatdoor", sum := "2cb8a542d82ccb9c7a2f116d32f6840200889f66cec80c56b20727c30b7fec9e", func := "thimble/thimblelaw15.PathPoints", spec := "pathPoints", inPlace := ["maps.clone", "internal/bytealg.IndexByteString", "internal/bytealg.IndexString", "slices.overlaps[thimble/api.Op]"], unfollowed := true, recurses := true, named := ["internal/bytealg.MaxLen", "unicode/utf8.first", "unicode/utf8.acceptRanges"], plainKeys := false, apart := false, laid := [("unicode/utf8.acceptRanges", laid_unicode_utf8_acceptRanges), ("unicode/utf8.first", laid_unicode_utf8_first)], narrowed := true }
def PathPointsUptoSaid : Prop := pathPointsUptoRow.holds Tryz.pinned (OpenSpec.upto pathPointsSpec)

/-- 'thimblelaw15.PathParts', WHERE WHAT IT READS IS OF BULK AT MOST 1048576: true; the input reads as it did. -/
def pathPartsUptoRow : OpenClaim := { program := "ytfbjiaedfmdcfaagreatdoor", sum := "2cb8a542d82ccb9c7a2f116d32f6840200889f66cec80c56b20727c30b7fec9e", func := "thimble/thimblelaw15.PathParts", spec := "pathParts", inPlace := ["maps.clone", "internal/bytealg.IndexByteString", "internal/bytealg.IndexString", "slices.overlaps[thimble/api.Op]"], unfollowed := true, recurses := true, named := ["internal/bytealg.MaxLen", "unicode/utf8.first", "unicode/utf8.acceptRanges"], plainKeys := false, apart := false, laid := [("unicode/utf8.acceptRanges", laid_unicode_utf8_acceptRanges), ("unicode/utf8.first", laid_unicode_utf8_first)], narrowed := true }
def PathPartsUptoSaid : Prop := pathPartsUptoRow.holds Tryz.pinned (OpenSpec.upto pathPartsSpec)

/-- 'thimblelaw15.PathNobody', WHERE WHAT IT READS IS OF BULK AT MOST 1048576: true; the input reads as it did. -/
def pathNobodyUptoRow : OpenClaim := { program := "ytfbjiaedfmdcfaagreatdoor", sum := "2cb8a542d82ccb9c7a2f116d32f6840200889f66cec80c56b20727c30b7fec9e", func := "thimble/thimblelaw15.PathNobody", spec := "pathNobody", inPlace := ["maps.clone", "internal/bytealg.IndexByteString", "internal/bytealg.IndexString", "slices.overlaps[thimble/api.Op]"], unfollowed := true, recurses := true, named := ["internal/bytealg.MaxLen", "unicode/utf8.first", "unicode/utf8.acceptRanges"], plainKeys := false, apart := false, laid := [("unicode/utf8.acceptRanges", laid_unicode_utf8_acceptRanges), ("unicode/utf8.first", laid_unicode_utf8_first)], narrowed := true }
def PathNobodyUptoSaid : Prop := pathNobodyUptoRow.holds Tryz.pinned (OpenSpec.upto pathNobodySpec)

/-- 'thimblelaw15.PathHome', WHERE WHAT IT READS IS OF BULK AT MOST 1048576: true; the input reads as it did. -/
def pathHomeUptoRow : OpenClaim := { program := "ytfbjiaedfmdcfaagreatdoor", sum := "2cb8a542d82ccb9c7a2f116d32f6840200889f66cec80c56b20727c30b7fec9e", func := "thimble/thimblelaw15.PathHome", spec := "pathHome", inPlace := ["maps.clone", "internal/bytealg.IndexByteString", "internal/bytealg.IndexString", "slices.overlaps[thimble/api.Op]", "internal/abi.NoEscape", "internal/bytealg.MakeNoZero"], unfollowed := true, recurses := true, named := ["internal/bytealg.MaxLen", "unicode/utf8.first", "unicode/utf8.acceptRanges"], plainKeys := false, apart := false, laid := [("unicode/utf8.acceptRanges", laid_unicode_utf8_acceptRanges), ("unicode/utf8.first", laid_unicode_utf8_first)], narrowed := true }
def PathHomeUptoSaid : Prop := pathHomeUptoRow.holds Tryz.pinned (OpenSpec.upto pathHomeSpec)

/-- 'thimblelaw15.PathUp', WHERE WHAT IT READS IS OF BULK AT MOST 1048576: true; the input reads as it did. -/
def pathUpUptoRow : OpenClaim := { program := "ytfbjiaedfmdcfaagreatdoor", sum := "2cb8a542d82ccb9c7a2f116d32f6840200889f66cec80c56b20727c30b7fec9e", func := "thimble/thimblelaw15.PathUp", spec := "pathUp", inPlace := ["maps.clone", "internal/bytealg.IndexByteString", "internal/bytealg.IndexString", "slices.overlaps[thimble/api.Op]", "internal/abi.NoEscape", "internal/bytealg.MakeNoZero"], unfollowed := true, recurses := true, named := ["internal/bytealg.MaxLen", "unicode/utf8.first", "unicode/utf8.acceptRanges"], plainKeys := false, apart := false, laid := [("unicode/utf8.acceptRanges", laid_unicode_utf8_acceptRanges), ("unicode/utf8.first", laid_unicode_utf8_first)], narrowed := true }
def PathUpUptoSaid : Prop := pathUpUptoRow.holds Tryz.pinned (OpenSpec.upto pathUpSpec)

/-- 'thimblelaw16.CallsThere', WHERE WHAT IT READS IS OF BULK AT MOST 1048576: true; the input reads as it did. -/
def callsThereUptoRow : OpenClaim := { program := "ytfbjiaedfmdcfaagreatdoor", sum := "2cb8a542d82ccb9c7a2f116d32f6840200889f66cec80c56b20727c30b7fec9e", func := "thimble/thimblelaw16.CallsThere", spec := "callsThere", inPlace := ["internal/bytealg.IndexByteString", "internal/bytealg.IndexString", "maps.clone", "slices.overlaps[thimble/api.Op]"], unfollowed := true, recurses := true, named := ["internal/bytealg.MaxLen", "unicode/utf8.first", "unicode/utf8.acceptRanges"], plainKeys := false, apart := false, laid := [("unicode/utf8.acceptRanges", laid_unicode_utf8_acceptRanges), ("unicode/utf8.first", laid_unicode_utf8_first)], narrowed := true }
def CallsThereUptoSaid : Prop := callsThereUptoRow.holds Tryz.pinned (OpenSpec.upto callsThereSpec)

/-- 'thimblelaw16.CallsTwice', WHERE WHAT IT READS IS OF BULK AT MOST 1048576: true; the input reads as it did. -/
def callsTwiceUptoRow : OpenClaim := { program := "ytfbjiaedfmdcfaagreatdoor", sum := "2cb8a542d82ccb9c7a2f116d32f6840200889f66cec80c56b20727c30b7fec9e", func := "thimble/thimblelaw16.CallsTwice", spec := "callsTwice", inPlace := ["internal/bytealg.IndexByteString", "internal/bytealg.IndexString", "maps.clone", "slices.overlaps[thimble/api.Op]"], unfollowed := true, recurses := true, named := ["internal/bytealg.MaxLen", "unicode/utf8.first", "unicode/utf8.acceptRanges"], plainKeys := false, apart := false, laid := [("unicode/utf8.acceptRanges", laid_unicode_utf8_acceptRanges), ("unicode/utf8.first", laid_unicode_utf8_first)], narrowed := true }
def CallsTwiceUptoSaid : Prop := callsTwiceUptoRow.holds Tryz.pinned (OpenSpec.upto callsTwiceSpec)

/-- 'thimblelaw16.CallsDo', WHERE WHAT IT READS IS OF BULK AT MOST 1048576: true; the input reads as it did. -/
def callsDoUptoRow : OpenClaim := { program := "ytfbjiaedfmdcfaagreatdoor", sum := "2cb8a542d82ccb9c7a2f116d32f6840200889f66cec80c56b20727c30b7fec9e", func := "thimble/thimblelaw16.CallsDo", spec := "callsDo", inPlace := ["internal/bytealg.IndexByteString", "internal/bytealg.IndexString", "maps.clone", "slices.overlaps[thimble/api.Op]"], unfollowed := true, recurses := true, named := ["internal/bytealg.MaxLen", "unicode/utf8.first", "unicode/utf8.acceptRanges"], plainKeys := false, apart := false, laid := [("unicode/utf8.acceptRanges", laid_unicode_utf8_acceptRanges), ("unicode/utf8.first", laid_unicode_utf8_first)], narrowed := true }
def CallsDoUptoSaid : Prop := callsDoUptoRow.holds Tryz.pinned (OpenSpec.upto callsDoSpec)

/-- 'thimblelaw16.CallsRead', WHERE WHAT IT READS IS OF BULK AT MOST 1048576: true; the input reads as it did. -/
def callsReadUptoRow : OpenClaim := { program := "ytfbjiaedfmdcfaagreatdoor", sum := "2cb8a542d82ccb9c7a2f116d32f6840200889f66cec80c56b20727c30b7fec9e", func := "thimble/thimblelaw16.CallsRead", spec := "callsRead", inPlace := ["internal/bytealg.IndexByteString", "internal/bytealg.IndexString", "maps.clone", "slices.overlaps[thimble/api.Op]"], unfollowed := true, recurses := true, named := ["internal/bytealg.MaxLen", "unicode/utf8.first", "unicode/utf8.acceptRanges"], plainKeys := false, apart := false, laid := [("unicode/utf8.acceptRanges", laid_unicode_utf8_acceptRanges), ("unicode/utf8.first", laid_unicode_utf8_first)], narrowed := true }
def CallsReadUptoSaid : Prop := callsReadUptoRow.holds Tryz.pinned (OpenSpec.upto callsReadSpec)

/-- 'thimblelaw16.CallsSame', WHERE WHAT IT READS IS OF BULK AT MOST 1048576: true; the input reads as it did. -/
def callsSameUptoRow : OpenClaim := { program := "ytfbjiaedfmdcfaagreatdoor", sum := "2cb8a542d82ccb9c7a2f116d32f6840200889f66cec80c56b20727c30b7fec9e", func := "thimble/thimblelaw16.CallsSame", spec := "callsSame", inPlace := ["internal/bytealg.IndexByteString", "internal/bytealg.IndexString", "maps.clone", "slices.overlaps[thimble/api.Op]"], unfollowed := true, recurses := true, named := ["internal/bytealg.MaxLen", "unicode/utf8.first", "unicode/utf8.acceptRanges"], plainKeys := false, apart := false, laid := [("unicode/utf8.acceptRanges", laid_unicode_utf8_acceptRanges), ("unicode/utf8.first", laid_unicode_utf8_first)], narrowed := true }
def CallsSameUptoSaid : Prop := callsSameUptoRow.holds Tryz.pinned (OpenSpec.upto callsSameSpec)

/-- 'thimblelaw22.ExportPaths', WHERE WHAT IT READS IS OF BULK AT MOST 1048576: true; the input reads as it did. -/
def exportPathsUptoRow : OpenClaim := { program := "ytfbjiaedfmdcfaagreatdoor", sum := "2cb8a542d82ccb9c7a2f116d32f6840200889f66cec80c56b20727c30b7fec9e", func := "thimble/thimblelaw22.ExportPaths", spec := "exportPaths", inPlace := ["internal/bytealg.IndexByteString", "internal/bytealg.IndexString", "maps.clone", "slices.overlaps[thimble/api.Op]"], unfollowed := true, recurses := true, named := ["unicode/utf8.first", "unicode/utf8.acceptRanges", "internal/bytealg.MaxLen", "internal/strconv.uint64pow10", "math/bits.deBruijn32tab", "math/bits.deBruijn64tab"], plainKeys := false, apart := false, laid := [("math/bits.deBruijn32tab", laid_math_bits_deBruijn32tab), ("math/bits.deBruijn64tab", laid_math_bits_deBruijn64tab), ("internal/strconv.uint64pow10", laid_internal_strconv_uint64pow10), ("unicode/utf8.acceptRanges", laid_unicode_utf8_acceptRanges), ("unicode/utf8.first", laid_unicode_utf8_first)], narrowed := true }
def ExportPathsUptoSaid : Prop := exportPathsUptoRow.holds Tryz.pinned (OpenSpec.upto exportPathsSpec)

/-- 'thimblelaw22.ExportCounts', WHERE WHAT IT READS IS OF BULK AT MOST 1048576: true; the input reads as it did. -/
def exportCountsUptoRow : OpenClaim := { program := "ytfbjiaedfmdcfaagreatdoor", sum := "2cb8a542d82ccb9c7a2f116d32f6840200889f66cec80c56b20727c30b7fec9e", func := "thimble/thimblelaw22.ExportCounts", spec := "exportCounts", inPlace := ["internal/bytealg.IndexByteString", "internal/bytealg.IndexString", "maps.clone", "slices.overlaps[thimble/api.Op]"], unfollowed := true, recurses := true, named := ["unicode/utf8.first", "unicode/utf8.acceptRanges", "internal/bytealg.MaxLen", "internal/strconv.uint64pow10", "math/bits.deBruijn32tab", "math/bits.deBruijn64tab"], plainKeys := false, apart := false, laid := [("math/bits.deBruijn32tab", laid_math_bits_deBruijn32tab), ("math/bits.deBruijn64tab", laid_math_bits_deBruijn64tab), ("internal/strconv.uint64pow10", laid_internal_strconv_uint64pow10), ("unicode/utf8.acceptRanges", laid_unicode_utf8_acceptRanges), ("unicode/utf8.first", laid_unicode_utf8_first)], narrowed := true }
def ExportCountsUptoSaid : Prop := exportCountsUptoRow.holds Tryz.pinned (OpenSpec.upto exportCountsSpec)

end Rows
end Go.Proofs.YtfbjiaedfmdcfaaGreatDoor
