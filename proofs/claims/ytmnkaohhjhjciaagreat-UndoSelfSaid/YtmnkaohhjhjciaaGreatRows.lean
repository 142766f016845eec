/-
  No cell of these rows narrows 'for every input' (looked for: loops, veiled, ifaces, maps, wideKeys, modest, calm, conditions, laid).
  DERIVED. THE GIVEN ROWS OF THIS SEAT. 15 by the template 'for every input the law returns true; each argument reads behind the call as it read before'; 0 by the template 'total and deterministic' (their statements: YtmnkaohhjhjciaaGreatTotals.lean).
  GIVEN WITH THE SEED: the statements are not yours to turn. If you find one false, say at which input.
  Laid BY PROGRAM, IN A SANDBOX (cutbox-rows.mjs): the forced cells as the released guide's own fill.sh prints them over the translation e0334e6a9239ebfb… (all of the seat's roots in one cut). By AI agents, Wed Nov 11 2026. No macro, syntax, notation, axiom, sorry.
-/
import Derived.Test.YtmnkaohhjhjciaaGreatChecked
import GoSem.Claim
import GoSem.ClaimJoined
import GoSem.ClaimMapViews
import Derived.JoinedTies
import Derived.KernelRfl
namespace Go.Proofs.YtmnkaohhjhjciaaGreat
/- THE CELL 'sum', in the pinned program and in every row, IS THE sha256 OF THE DUMP (.gsa) THAT YtmnkaohhjhjciaaGreatProg.lean LOADS. Nothing in Lean hashes anything: it is a label: what it is worth is what the hold of that sum in a sandbox is worth. -/
noncomputable def Tryz.pinned : Pinned := { name := "ytmnkaohhjhjciaagreat", sum := "e0334e6a9239ebfb81ab5a13e9e0ba0151003d57a5c883733d982cae7647c15f", checked := Tryz.checked }
namespace Rows
def none {H : Type} : Left H := { results := [], args := [] }

/-- 'thimblelaw09.GraphPlays': WHATEVER THE INPUT: true; the input reads as it did. -/
def graphPlaysSpec : ChangeSpec := { name := "graphPlays", fn := fun _ => fun
  | [d] => { results := [.lit (.bool true)], args := [d] }
  | _ => none }
def graphPlaysRow : OpenClaim := { program := "ytmnkaohhjhjciaagreat", sum := "e0334e6a9239ebfb81ab5a13e9e0ba0151003d57a5c883733d982cae7647c15f", func := "thimble/thimblelaw09.GraphPlays", spec := "graphPlays", inPlace := ["internal/bytealg.IndexByteString", "internal/bytealg.IndexString", "maps.clone"], unfollowed := true, recurses := true, named := ["internal/bytealg.MaxLen"], plainKeys := false, apart := false }
def GraphPlaysSaid : Prop := graphPlaysRow.holds Tryz.pinned (OpenSpec.ofChange graphPlaysSpec)

/-- ITS FALSE NEIGHBOUR: 'it returns false'. Refute it at one input. -/
def graphPlaysWrong : ChangeSpec := { name := "graphPlays", fn := fun _ => fun
  | [d] => { results := [.lit (.bool false)], args := [d] }
  | _ => none }
def GraphPlaysWrongFalsely : Prop := graphPlaysRow.holds Tryz.pinned (OpenSpec.ofChange graphPlaysWrong)

/-- 'thimblelaw10.AuditGraph': WHATEVER THE INPUT: true; the input reads as it did. -/
def auditGraphSpec : ChangeSpec := { name := "auditGraph", fn := fun _ => fun
  | [d1, d2, d3] => { results := [.lit (.bool true)], args := [d1, d2, d3] }
  | _ => none }
def auditGraphRow : OpenClaim := { program := "ytmnkaohhjhjciaagreat", sum := "e0334e6a9239ebfb81ab5a13e9e0ba0151003d57a5c883733d982cae7647c15f", func := "thimble/thimblelaw10.AuditGraph", spec := "auditGraph", inPlace := ["internal/bytealg.IndexByteString", "internal/bytealg.IndexString"], unfollowed := true, recurses := true, named := ["internal/bytealg.MaxLen"], plainKeys := false, apart := false }
def AuditGraphSaid : Prop := auditGraphRow.holds Tryz.pinned (OpenSpec.ofChange auditGraphSpec)

/-- ITS FALSE NEIGHBOUR: 'it returns false'. Refute it at one input. -/
def auditGraphWrong : ChangeSpec := { name := "auditGraph", fn := fun _ => fun
  | [d1, d2, d3] => { results := [.lit (.bool false)], args := [d1, d2, d3] }
  | _ => none }
def AuditGraphWrongFalsely : Prop := auditGraphRow.holds Tryz.pinned (OpenSpec.ofChange auditGraphWrong)

/-- 'thimblelaw11.ApplyTells': WHATEVER THE INPUT: true; the input reads as it did. -/
def applyTellsSpec : ChangeSpec := { name := "applyTells", fn := fun _ => fun
  | [d] => { results := [.lit (.bool true)], args := [d] }
  | _ => none }
def applyTellsRow : OpenClaim := { program := "ytmnkaohhjhjciaagreat", sum := "e0334e6a9239ebfb81ab5a13e9e0ba0151003d57a5c883733d982cae7647c15f", func := "thimble/thimblelaw11.ApplyTells", spec := "applyTells", inPlace := ["internal/bytealg.IndexByteString", "internal/bytealg.IndexString"], unfollowed := true, recurses := true, named := ["internal/bytealg.MaxLen"], plainKeys := false, apart := false }
def ApplyTellsSaid : Prop := applyTellsRow.holds Tryz.pinned (OpenSpec.ofChange applyTellsSpec)

/-- ITS FALSE NEIGHBOUR: 'it returns false'. Refute it at one input. -/
def applyTellsWrong : ChangeSpec := { name := "applyTells", fn := fun _ => fun
  | [d] => { results := [.lit (.bool false)], args := [d] }
  | _ => none }
def ApplyTellsWrongFalsely : Prop := applyTellsRow.holds Tryz.pinned (OpenSpec.ofChange applyTellsWrong)

/-- 'thimblelaw11.ApplyMoves': WHATEVER THE INPUT: true; the input reads as it did. -/
def applyMovesSpec : ChangeSpec := { name := "applyMoves", fn := fun _ => fun
  | [d1, d2] => { results := [.lit (.bool true)], args := [d1, d2] }
  | _ => none }
def applyMovesRow : OpenClaim := { program := "ytmnkaohhjhjciaagreat", sum := "e0334e6a9239ebfb81ab5a13e9e0ba0151003d57a5c883733d982cae7647c15f", func := "thimble/thimblelaw11.ApplyMoves", spec := "applyMoves", inPlace := ["internal/bytealg.IndexByteString", "internal/bytealg.IndexString"], unfollowed := true, recurses := true, named := ["internal/bytealg.MaxLen"], plainKeys := false, apart := false }
def ApplyMovesSaid : Prop := applyMovesRow.holds Tryz.pinned (OpenSpec.ofChange applyMovesSpec)

/-- ITS FALSE NEIGHBOUR: 'it returns false'. Refute it at one input. -/
def applyMovesWrong : ChangeSpec := { name := "applyMoves", fn := fun _ => fun
  | [d1, d2] => { results := [.lit (.bool false)], args := [d1, d2] }
  | _ => none }
def ApplyMovesWrongFalsely : Prop := applyMovesRow.holds Tryz.pinned (OpenSpec.ofChange applyMovesWrong)

/-- 'thimblelaw11.ApplyGone': WHATEVER THE INPUT: true; the input reads as it did. -/
def applyGoneSpec : ChangeSpec := { name := "applyGone", fn := fun _ => fun
  | [d1, d2] => { results := [.lit (.bool true)], args := [d1, d2] }
  | _ => none }
def applyGoneRow : OpenClaim := { program := "ytmnkaohhjhjciaagreat", sum := "e0334e6a9239ebfb81ab5a13e9e0ba0151003d57a5c883733d982cae7647c15f", func := "thimble/thimblelaw11.ApplyGone", spec := "applyGone", inPlace := ["internal/bytealg.IndexByteString", "internal/bytealg.IndexString"], unfollowed := true, recurses := true, named := ["internal/bytealg.MaxLen"], plainKeys := false, apart := false }
def ApplyGoneSaid : Prop := applyGoneRow.holds Tryz.pinned (OpenSpec.ofChange applyGoneSpec)

/-- ITS FALSE NEIGHBOUR: 'it returns false'. Refute it at one input. -/
def applyGoneWrong : ChangeSpec := { name := "applyGone", fn := fun _ => fun
  | [d1, d2] => { results := [.lit (.bool false)], args := [d1, d2] }
  | _ => none }
def ApplyGoneWrongFalsely : Prop := applyGoneRow.holds Tryz.pinned (OpenSpec.ofChange applyGoneWrong)

/-- 'thimblelaw11.ApplyData': WHATEVER THE INPUT: true; the input reads as it did. -/
def applyDataSpec : ChangeSpec := { name := "applyData", fn := fun _ => fun
  | [d1, d2, d3] => { results := [.lit (.bool true)], args := [d1, d2, d3] }
  | _ => none }
def applyDataRow : OpenClaim := { program := "ytmnkaohhjhjciaagreat", sum := "e0334e6a9239ebfb81ab5a13e9e0ba0151003d57a5c883733d982cae7647c15f", func := "thimble/thimblelaw11.ApplyData", spec := "applyData", inPlace := ["internal/bytealg.IndexByteString", "internal/bytealg.IndexString"], unfollowed := true, recurses := true, named := ["internal/bytealg.MaxLen"], plainKeys := false, apart := false }
def ApplyDataSaid : Prop := applyDataRow.holds Tryz.pinned (OpenSpec.ofChange applyDataSpec)

/-- ITS FALSE NEIGHBOUR: 'it returns false'. Refute it at one input. -/
def applyDataWrong : ChangeSpec := { name := "applyData", fn := fun _ => fun
  | [d1, d2, d3] => { results := [.lit (.bool false)], args := [d1, d2, d3] }
  | _ => none }
def ApplyDataWrongFalsely : Prop := applyDataRow.holds Tryz.pinned (OpenSpec.ofChange applyDataWrong)

/-- 'thimblelaw11.ApplyNothing': WHATEVER THE INPUT: true; the input reads as it did. -/
def applyNothingSpec : ChangeSpec := { name := "applyNothing", fn := fun _ => fun
  | [d1, d2] => { results := [.lit (.bool true)], args := [d1, d2] }
  | _ => none }
def applyNothingRow : OpenClaim := { program := "ytmnkaohhjhjciaagreat", sum := "e0334e6a9239ebfb81ab5a13e9e0ba0151003d57a5c883733d982cae7647c15f", func := "thimble/thimblelaw11.ApplyNothing", spec := "applyNothing", inPlace := ["internal/bytealg.IndexByteString", "internal/bytealg.IndexString", "maps.clone"], unfollowed := true, recurses := true, named := ["internal/bytealg.MaxLen"], plainKeys := false, apart := false }
def ApplyNothingSaid : Prop := applyNothingRow.holds Tryz.pinned (OpenSpec.ofChange applyNothingSpec)

/-- ITS FALSE NEIGHBOUR: 'it returns false'. Refute it at one input. -/
def applyNothingWrong : ChangeSpec := { name := "applyNothing", fn := fun _ => fun
  | [d1, d2] => { results := [.lit (.bool false)], args := [d1, d2] }
  | _ => none }
def ApplyNothingWrongFalsely : Prop := applyNothingRow.holds Tryz.pinned (OpenSpec.ofChange applyNothingWrong)

/-- 'thimblelaw11.ApplyMakes': WHATEVER THE INPUT: true; the input reads as it did. -/
def applyMakesSpec : ChangeSpec := { name := "applyMakes", fn := fun _ => fun
  | [d1, d2] => { results := [.lit (.bool true)], args := [d1, d2] }
  | _ => none }
def applyMakesRow : OpenClaim := { program := "ytmnkaohhjhjciaagreat", sum := "e0334e6a9239ebfb81ab5a13e9e0ba0151003d57a5c883733d982cae7647c15f", func := "thimble/thimblelaw11.ApplyMakes", spec := "applyMakes", inPlace := ["internal/bytealg.IndexByteString", "internal/bytealg.IndexString", "maps.clone"], unfollowed := true, recurses := true, named := ["internal/bytealg.MaxLen"], plainKeys := false, apart := false }
def ApplyMakesSaid : Prop := applyMakesRow.holds Tryz.pinned (OpenSpec.ofChange applyMakesSpec)

/-- ITS FALSE NEIGHBOUR: 'it returns false'. Refute it at one input. -/
def applyMakesWrong : ChangeSpec := { name := "applyMakes", fn := fun _ => fun
  | [d1, d2] => { results := [.lit (.bool false)], args := [d1, d2] }
  | _ => none }
def ApplyMakesWrongFalsely : Prop := applyMakesRow.holds Tryz.pinned (OpenSpec.ofChange applyMakesWrong)

/-- 'thimblelaw11.ApplyApart': WHATEVER THE INPUT: true; the input reads as it did. -/
def applyApartSpec : ChangeSpec := { name := "applyApart", fn := fun _ => fun
  | [d1, d2, d3] => { results := [.lit (.bool true)], args := [d1, d2, d3] }
  | _ => none }
def applyApartRow : OpenClaim := { program := "ytmnkaohhjhjciaagreat", sum := "e0334e6a9239ebfb81ab5a13e9e0ba0151003d57a5c883733d982cae7647c15f", func := "thimble/thimblelaw11.ApplyApart", spec := "applyApart", inPlace := ["internal/bytealg.IndexByteString", "internal/bytealg.IndexString", "maps.clone"], unfollowed := true, recurses := true, named := ["internal/bytealg.MaxLen"], plainKeys := false, apart := false }
def ApplyApartSaid : Prop := applyApartRow.holds Tryz.pinned (OpenSpec.ofChange applyApartSpec)

/-- ITS FALSE NEIGHBOUR: 'it returns false'. Refute it at one input. -/
def applyApartWrong : ChangeSpec := { name := "applyApart", fn := fun _ => fun
  | [d1, d2, d3] => { results := [.lit (.bool false)], args := [d1, d2, d3] }
  | _ => none }
def ApplyApartWrongFalsely : Prop := applyApartRow.holds Tryz.pinned (OpenSpec.ofChange applyApartWrong)

/-- 'thimblelaw12.UndoTells': WHATEVER THE INPUT: true; the input reads as it did. -/
def undoTellsSpec : ChangeSpec := { name := "undoTells", fn := fun _ => fun
  | [d1, d2, d3] => { results := [.lit (.bool true)], args := [d1, d2, d3] }
  | _ => none }
def undoTellsRow : OpenClaim := { program := "ytmnkaohhjhjciaagreat", sum := "e0334e6a9239ebfb81ab5a13e9e0ba0151003d57a5c883733d982cae7647c15f", func := "thimble/thimblelaw12.UndoTells", spec := "undoTells", inPlace := ["maps.clone", "internal/bytealg.IndexByteString", "internal/bytealg.IndexString"], unfollowed := true, recurses := true, named := ["internal/bytealg.MaxLen"], plainKeys := false, apart := false }
def UndoTellsSaid : Prop := undoTellsRow.holds Tryz.pinned (OpenSpec.ofChange undoTellsSpec)

/-- ITS FALSE NEIGHBOUR: 'it returns false'. Refute it at one input. -/
def undoTellsWrong : ChangeSpec := { name := "undoTells", fn := fun _ => fun
  | [d1, d2, d3] => { results := [.lit (.bool false)], args := [d1, d2, d3] }
  | _ => none }
def UndoTellsWrongFalsely : Prop := undoTellsRow.holds Tryz.pinned (OpenSpec.ofChange undoTellsWrong)

/-- 'thimblelaw12.UndoBack': WHATEVER THE INPUT: true; the input reads as it did. -/
def undoBackSpec : ChangeSpec := { name := "undoBack", fn := fun _ => fun
  | [d1, d2] => { results := [.lit (.bool true)], args := [d1, d2] }
  | _ => none }
def undoBackRow : OpenClaim := { program := "ytmnkaohhjhjciaagreat", sum := "e0334e6a9239ebfb81ab5a13e9e0ba0151003d57a5c883733d982cae7647c15f", func := "thimble/thimblelaw12.UndoBack", spec := "undoBack", inPlace := ["maps.clone", "internal/bytealg.IndexByteString", "internal/bytealg.IndexString"], unfollowed := true, recurses := true, named := ["internal/bytealg.MaxLen"], plainKeys := false, apart := false }
def UndoBackSaid : Prop := undoBackRow.holds Tryz.pinned (OpenSpec.ofChange undoBackSpec)

/-- ITS FALSE NEIGHBOUR: 'it returns false'. Refute it at one input. -/
def undoBackWrong : ChangeSpec := { name := "undoBack", fn := fun _ => fun
  | [d1, d2] => { results := [.lit (.bool false)], args := [d1, d2] }
  | _ => none }
def UndoBackWrongFalsely : Prop := undoBackRow.holds Tryz.pinned (OpenSpec.ofChange undoBackWrong)

/-- 'thimblelaw12.UndoFew': WHATEVER THE INPUT: true; the input reads as it did. -/
def undoFewSpec : ChangeSpec := { name := "undoFew", fn := fun _ => fun
  | [d1, d2] => { results := [.lit (.bool true)], args := [d1, d2] }
  | _ => none }
def undoFewRow : OpenClaim := { program := "ytmnkaohhjhjciaagreat", sum := "e0334e6a9239ebfb81ab5a13e9e0ba0151003d57a5c883733d982cae7647c15f", func := "thimble/thimblelaw12.UndoFew", spec := "undoFew", inPlace := ["maps.clone", "internal/bytealg.IndexByteString", "internal/bytealg.IndexString"], unfollowed := true, recurses := true, named := ["internal/bytealg.MaxLen"], plainKeys := false, apart := false }
def UndoFewSaid : Prop := undoFewRow.holds Tryz.pinned (OpenSpec.ofChange undoFewSpec)

/-- ITS FALSE NEIGHBOUR: 'it returns false'. Refute it at one input. -/
def undoFewWrong : ChangeSpec := { name := "undoFew", fn := fun _ => fun
  | [d1, d2] => { results := [.lit (.bool false)], args := [d1, d2] }
  | _ => none }
def UndoFewWrongFalsely : Prop := undoFewRow.holds Tryz.pinned (OpenSpec.ofChange undoFewWrong)

/-- 'thimblelaw12.UndoSelf': WHATEVER THE INPUT: true; the input reads as it did. -/
def undoSelfSpec : ChangeSpec := { name := "undoSelf", fn := fun _ => fun
  | [d1, d2] => { results := [.lit (.bool true)], args := [d1, d2] }
  | _ => none }
def undoSelfRow : OpenClaim := { program := "ytmnkaohhjhjciaagreat", sum := "e0334e6a9239ebfb81ab5a13e9e0ba0151003d57a5c883733d982cae7647c15f", func := "thimble/thimblelaw12.UndoSelf", spec := "undoSelf", inPlace := ["maps.clone", "internal/bytealg.IndexByteString", "internal/bytealg.IndexString"], unfollowed := true, recurses := true, named := ["internal/bytealg.MaxLen"], plainKeys := false, apart := false }
def UndoSelfSaid : Prop := undoSelfRow.holds Tryz.pinned (OpenSpec.ofChange undoSelfSpec)

/-- ITS FALSE NEIGHBOUR: 'it returns false'. Refute it at one input. -/
def undoSelfWrong : ChangeSpec := { name := "undoSelf", fn := fun _ => fun
  | [d1, d2] => { results := [.lit (.bool false)], args := [d1, d2] }
  | _ => none }
def UndoSelfWrongFalsely : Prop := undoSelfRow.holds Tryz.pinned (OpenSpec.ofChange undoSelfWrong)

/-- 'thimblelaw12.UndoThree': WHATEVER THE INPUT: true; the input reads as it did. -/
def undoThreeSpec : ChangeSpec := { name := "undoThree", fn := fun _ => fun
  | [d1, d2, d3] => { results := [.lit (.bool true)], args := [d1, d2, d3] }
  | _ => none }
def undoThreeRow : OpenClaim := { program := "ytmnkaohhjhjciaagreat", sum := "e0334e6a9239ebfb81ab5a13e9e0ba0151003d57a5c883733d982cae7647c15f", func := "thimble/thimblelaw12.UndoThree", spec := "undoThree", inPlace := ["maps.clone", "internal/bytealg.IndexByteString", "internal/bytealg.IndexString"], unfollowed := true, recurses := true, named := ["internal/bytealg.MaxLen"], plainKeys := false, apart := false }
def UndoThreeSaid : Prop := undoThreeRow.holds Tryz.pinned (OpenSpec.ofChange undoThreeSpec)

/-- ITS FALSE NEIGHBOUR: 'it returns false'. Refute it at one input. -/
def undoThreeWrong : ChangeSpec := { name := "undoThree", fn := fun _ => fun
  | [d1, d2, d3] => { results := [.lit (.bool false)], args := [d1, d2, d3] }
  | _ => none }
def UndoThreeWrongFalsely : Prop := undoThreeRow.holds Tryz.pinned (OpenSpec.ofChange undoThreeWrong)

/-- 'thimblelaw11.ApplyFine': WHATEVER THE INPUT: true; the input reads as it did. -/
def applyFineSpec : ChangeSpec := { name := "applyFine", fn := fun _ => fun
  | [d] => { results := [.lit (.bool true)], args := [d] }
  | _ => none }
def applyFineRow : OpenClaim := { program := "ytmnkaohhjhjciaagreat", sum := "e0334e6a9239ebfb81ab5a13e9e0ba0151003d57a5c883733d982cae7647c15f", func := "thimble/thimblelaw11.ApplyFine", spec := "applyFine", inPlace := ["internal/bytealg.IndexByteString", "internal/bytealg.IndexString"], unfollowed := true, recurses := true, named := ["internal/bytealg.MaxLen"], plainKeys := false, apart := false }
def ApplyFineSaid : Prop := applyFineRow.holds Tryz.pinned (OpenSpec.ofChange applyFineSpec)

/-- ITS FALSE NEIGHBOUR: 'it returns false'. Refute it at one input. -/
def applyFineWrong : ChangeSpec := { name := "applyFine", fn := fun _ => fun
  | [d] => { results := [.lit (.bool false)], args := [d] }
  | _ => none }
def ApplyFineWrongFalsely : Prop := applyFineRow.holds Tryz.pinned (OpenSpec.ofChange applyFineWrong)

/- THE SECOND FORM. 'bulk': how many values and letters a reading holds, each counted each time it is reached (what is shared counts as often as it is met; a slice's spare places count too). A statement '..UptoSaid' is the law's where the arguments, and the package variables that the reading takes, are together of bulk at most 1048576: NARROWER than '..Said'. Prove '..Said' where nothing that the law and all that it calls make is longer than what came in: it says more and counts as full. Else prove '..UptoSaid'. A law counts once. -/
mutual
def uptoBulk {H : Type} : DataW H → Nat
  | .lit (.string bytes) => bytes.length + 1
  | .lit _ => 1
  | .nil => 1
  | .ptr d => uptoBulk d + 1
  | .slice elems spare => uptoBulkAll elems + uptoBulkAll spare + 1
  | .agg parts => uptoBulkAll parts + 1
  | .iface _ d => uptoBulk d + 1
  | .map entries => uptoBulkEntries entries + 1
  | .held _ => 1
def uptoBulkAll {H : Type} : List (DataW H) → Nat
  | [] => 0
  | d :: r => uptoBulk d + uptoBulkAll r
def uptoBulkEntries {H : Type} : List (Lit × DataW H) → Nat
  | [] => 0
  | x :: r => uptoBulkEntry x + uptoBulkEntries r
def uptoBulkEntry {H : Type} : Lit × DataW H → Nat
  | (.string bytes, d) => bytes.length + uptoBulk d + 1
  | (_, d) => uptoBulk d + 1
 end
def uptoSmall : (H : Type) → List (DataW H) → Bool := fun _ ds => decide (uptoBulkAll ds ≤ 1048576)
def OpenSpec.upto (s : _root_.Go.ChangeSpec) : _root_.Go.OpenSpec := { _root_.Go.OpenSpec.ofChange s with cond := some uptoSmall }

/-- 'thimblelaw09.GraphPlays', WHERE WHAT IT READS IS OF BULK AT MOST 1048576: true; the input reads as it did. -/
def graphPlaysUptoRow : OpenClaim := { program := "ytmnkaohhjhjciaagreat", sum := "e0334e6a9239ebfb81ab5a13e9e0ba0151003d57a5c883733d982cae7647c15f", func := "thimble/thimblelaw09.GraphPlays", spec := "graphPlays", inPlace := ["internal/bytealg.IndexByteString", "internal/bytealg.IndexString", "maps.clone"], unfollowed := true, recurses := true, named := ["internal/bytealg.MaxLen"], plainKeys := false, apart := false, narrowed := true }
def GraphPlaysUptoSaid : Prop := graphPlaysUptoRow.holds Tryz.pinned (OpenSpec.upto graphPlaysSpec)

/-- 'thimblelaw10.AuditGraph', WHERE WHAT IT READS IS OF BULK AT MOST 1048576: true; the input reads as it did. -/
def auditGraphUptoRow : OpenClaim := { program := "ytmnkaohhjhjciaagreat", sum := "e0334e6a9239ebfb81ab5a13e9e0ba0151003d57a5c883733d982cae7647c15f", func := "thimble/thimblelaw10.AuditGraph", spec := "auditGraph", inPlace := ["internal/bytealg.IndexByteString", "internal/bytealg.IndexString"], unfollowed := true, recurses := true, named := ["internal/bytealg.MaxLen"], plainKeys := false, apart := false, narrowed := true }
def AuditGraphUptoSaid : Prop := auditGraphUptoRow.holds Tryz.pinned (OpenSpec.upto auditGraphSpec)

/-- 'thimblelaw11.ApplyTells', WHERE WHAT IT READS IS OF BULK AT MOST 1048576: true; the input reads as it did. -/
def applyTellsUptoRow : OpenClaim := { program := "ytmnkaohhjhjciaagreat", sum := "e0334e6a9239ebfb81ab5a13e9e0ba0151003d57a5c883733d982cae7647c15f", func := "thimble/thimblelaw11.ApplyTells", spec := "applyTells", inPlace := ["internal/bytealg.IndexByteString", "internal/bytealg.IndexString"], unfollowed := true, recurses := true, named := ["internal/bytealg.MaxLen"], plainKeys := false, apart := false, narrowed := true }
def ApplyTellsUptoSaid : Prop := applyTellsUptoRow.holds Tryz.pinned (OpenSpec.upto applyTellsSpec)

/-- 'thimblelaw11.ApplyMoves', WHERE WHAT IT READS IS OF BULK AT MOST 1048576: true; the input reads as it did. -/
def applyMovesUptoRow : OpenClaim := { program := "ytmnkaohhjhjciaagreat", sum := "e0334e6a9239ebfb81ab5a13e9e0ba0151003d57a5c883733d982cae7647c15f", func := "thimble/thimblelaw11.ApplyMoves", spec := "applyMoves", inPlace := ["internal/bytealg.IndexByteString", "internal/bytealg.IndexString"], unfollowed := true, recurses := true, named := ["internal/bytealg.MaxLen"], plainKeys := false, apart := false, narrowed := true }
def ApplyMovesUptoSaid : Prop := applyMovesUptoRow.holds Tryz.pinned (OpenSpec.upto applyMovesSpec)

/-- 'thimblelaw11.ApplyGone', WHERE WHAT IT READS IS OF BULK AT MOST 1048576: true; the input reads as it did. -/
def applyGoneUptoRow : OpenClaim := { program := "ytmnkaohhjhjciaagreat", sum := "e0334e6a9239ebfb81ab5a13e9e0ba0151003d57a5c883733d982cae7647c15f", func := "thimble/thimblelaw11.ApplyGone", spec := "applyGone", inPlace := ["internal/bytealg.IndexByteString", "internal/bytealg.IndexString"], unfollowed := true, recurses := true, named := ["internal/bytealg.MaxLen"], plainKeys := false, apart := false, narrowed := true }
def ApplyGoneUptoSaid : Prop := applyGoneUptoRow.holds Tryz.pinned (OpenSpec.upto applyGoneSpec)

/-- 'thimblelaw11.ApplyData', WHERE WHAT IT READS IS OF BULK AT MOST 1048576: true; the input reads as it did. -/
def applyDataUptoRow : OpenClaim := { program := "ytmnkaohhjhjciaagreat", sum := "e0334e6a9239ebfb81ab5a13e9e0ba0151003d57a5c883733d982cae7647c15f", func := "thimble/thimblelaw11.ApplyData", spec := "applyData", inPlace := ["internal/bytealg.IndexByteString", "internal/bytealg.IndexString"], unfollowed := true, recurses := true, named := ["internal/bytealg.MaxLen"], plainKeys := false, apart := false, narrowed := true }
def ApplyDataUptoSaid : Prop := applyDataUptoRow.holds Tryz.pinned (OpenSpec.upto applyDataSpec)

/-- 'thimblelaw11.ApplyNothing', WHERE WHAT IT READS IS OF BULK AT MOST 1048576: true; the input reads as it did. -/
def applyNothingUptoRow : OpenClaim := { program := "ytmnkaohhjhjciaagreat", sum := "e0334e6a9239ebfb81ab5a13e9e0ba0151003d57a5c883733d982cae7647c15f", func := "thimble/thimblelaw11.ApplyNothing", spec := "applyNothing", inPlace := ["internal/bytealg.IndexByteString", "internal/bytealg.IndexString", "maps.clone"], unfollowed := true, recurses := true, named := ["internal/bytealg.MaxLen"], plainKeys := false, apart := false, narrowed := true }
def ApplyNothingUptoSaid : Prop := applyNothingUptoRow.holds Tryz.pinned (OpenSpec.upto applyNothingSpec)

/-- 'thimblelaw11.ApplyMakes', WHERE WHAT IT READS IS OF BULK AT MOST 1048576: true; the input reads as it did. -/
def applyMakesUptoRow : OpenClaim := { program := "ytmnkaohhjhjciaagreat", sum := "e0334e6a9239ebfb81ab5a13e9e0ba0151003d57a5c883733d982cae7647c15f", func := "thimble/thimblelaw11.ApplyMakes", spec := "applyMakes", inPlace := ["internal/bytealg.IndexByteString", "internal/bytealg.IndexString", "maps.clone"], unfollowed := true, recurses := true, named := ["internal/bytealg.MaxLen"], plainKeys := false, apart := false, narrowed := true }
def ApplyMakesUptoSaid : Prop := applyMakesUptoRow.holds Tryz.pinned (OpenSpec.upto applyMakesSpec)

/-- 'thimblelaw11.ApplyApart', WHERE WHAT IT READS IS OF BULK AT MOST 1048576: true; the input reads as it did. -/
def applyApartUptoRow : OpenClaim := { program := "ytmnkaohhjhjciaagreat", sum := "e0334e6a9239ebfb81ab5a13e9e0ba0151003d57a5c883733d982cae7647c15f", func := "thimble/thimblelaw11.ApplyApart", spec := "applyApart", inPlace := ["internal/bytealg.IndexByteString", "internal/bytealg.IndexString", "maps.clone"], unfollowed := true, recurses := true, named := ["internal/bytealg.MaxLen"], plainKeys := false, apart := false, narrowed := true }
def ApplyApartUptoSaid : Prop := applyApartUptoRow.holds Tryz.pinned (OpenSpec.upto applyApartSpec)

/-- 'thimblelaw12.UndoTells', WHERE WHAT IT READS IS OF BULK AT MOST 1048576: true; the input reads as it did. -/
def undoTellsUptoRow : OpenClaim := { program := "ytmnkaohhjhjciaagreat", sum := "e0334e6a9239ebfb81ab5a13e9e0ba0151003d57a5c883733d982cae7647c15f", func := "thimble/thimblelaw12.UndoTells", spec := "undoTells", inPlace := ["maps.clone", "internal/bytealg.IndexByteString", "internal/bytealg.IndexString"], unfollowed := true, recurses := true, named := ["internal/bytealg.MaxLen"], plainKeys := false, apart := false, narrowed := true }
def UndoTellsUptoSaid : Prop := undoTellsUptoRow.holds Tryz.pinned (OpenSpec.upto undoTellsSpec)

/-- 'thimblelaw12.UndoBack', WHERE WHAT IT READS IS OF BULK AT MOST 1048576: true; the input reads as it did. -/
def undoBackUptoRow : OpenClaim := { program := "ytmnkaohhjhjciaagreat", sum := "e0334e6a9239ebfb81ab5a13e9e0ba0151003d57a5c883733d982cae7647c15f", func := "thimble/thimblelaw12.UndoBack", spec := "undoBack", inPlace := ["maps.clone", "internal/bytealg.IndexByteString", "internal/bytealg.IndexString"], unfollowed := true, recurses := true, named := ["internal/bytealg.MaxLen"], plainKeys := false, apart := false, narrowed := true }
def UndoBackUptoSaid : Prop := undoBackUptoRow.holds Tryz.pinned (OpenSpec.upto undoBackSpec)

/-- 'thimblelaw12.UndoFew', WHERE WHAT IT READS IS OF BULK AT MOST 1048576: true; the input reads as it did. -/
def undoFewUptoRow : OpenClaim := { program := "ytmnkaohhjhjciaagreat", sum := "e0334e6a9239ebfb81ab5a13e9e0ba0151003d57a5c883733d982cae7647c15f", func := "thimble/thimblelaw12.UndoFew", spec := "undoFew", inPlace := ["maps.clone", "internal/bytealg.IndexByteString", "internal/bytealg.IndexString"], unfollowed := true, recurses := true, named := ["internal/bytealg.MaxLen"], plainKeys := false, apart := false, narrowed := true }
def UndoFewUptoSaid : Prop := undoFewUptoRow.holds Tryz.pinned (OpenSpec.upto undoFewSpec)

/-- 'thimblelaw12.UndoSelf', WHERE WHAT IT READS IS OF BULK AT MOST 1048576: true; the input reads as it did. -/
def undoSelfUptoRow : OpenClaim := { program := "ytmnkaohhjhjciaagreat", sum := "e0334e6a9239ebfb81ab5a13e9e0ba0151003d57a5c883733d982cae7647c15f", func := "thimble/thimblelaw12.UndoSelf", spec := "undoSelf", inPlace := ["maps.clone", "internal/bytealg.IndexByteString", "internal/bytealg.IndexString"], unfollowed := true, recurses := true, named := ["internal/bytealg.MaxLen"], plainKeys := false, apart := false, narrowed := true }
def UndoSelfUptoSaid : Prop := undoSelfUptoRow.holds Tryz.pinned (OpenSpec.upto undoSelfSpec)

/-- 'thimblelaw12.UndoThree', WHERE WHAT IT READS IS OF BULK AT MOST 1048576: true; the input reads as it did. -/
def undoThreeUptoRow : OpenClaim := { program := "ytmnkaohhjhjciaagreat", sum := "e0334e6a9239ebfb81ab5a13e9e0ba0151003d57a5c883733d982cae7647c15f", func := "thimble/thimblelaw12.UndoThree", spec := "undoThree", inPlace := ["maps.clone", "internal/bytealg.IndexByteString", "internal/bytealg.IndexString"], unfollowed := true, recurses := true, named := ["internal/bytealg.MaxLen"], plainKeys := false, apart := false, narrowed := true }
def UndoThreeUptoSaid : Prop := undoThreeUptoRow.holds Tryz.pinned (OpenSpec.upto undoThreeSpec)

/-- 'thimblelaw11.ApplyFine', WHERE WHAT IT READS IS OF BULK AT MOST 1048576: true; the input reads as it did. -/
def applyFineUptoRow : OpenClaim := { program := "ytmnkaohhjhjciaagreat", sum := "e0334e6a9239ebfb81ab5a13e9e0ba0151003d57a5c883733d982cae7647c15f", func := "thimble/thimblelaw11.ApplyFine", spec := "applyFine", inPlace := ["internal/bytealg.IndexByteString", "internal/bytealg.IndexString"], unfollowed := true, recurses := true, named := ["internal/bytealg.MaxLen"], plainKeys := false, apart := false, narrowed := true }
def ApplyFineUptoSaid : Prop := applyFineUptoRow.holds Tryz.pinned (OpenSpec.upto applyFineSpec)

end Rows
end Go.Proofs.YtmnkaohhjhjciaaGreat
