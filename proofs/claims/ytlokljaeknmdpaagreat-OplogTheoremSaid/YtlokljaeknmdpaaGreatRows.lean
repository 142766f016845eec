/-
  No cell of these rows narrows 'for every input' (looked for: loops, veiled, ifaces, maps, wideKeys, modest, calm, conditions, laid).
  DERIVED. THE GIVEN ROWS OF THIS SEAT. 14 by the template 'for every input the law returns true; each argument reads behind the call as it read before'; 0 by the template 'total and deterministic' (their statements: YtlokljaeknmdpaaGreatTotals.lean).
  GIVEN WITH THE SEED: the statements are not yours to turn. If you find one false, say at which input.
  Laid BY PROGRAM, IN A SANDBOX (cutbox-rows.mjs): the forced cells as the released guide's own fill.sh prints them over the translation 3838f4603e22530c… (all of the seat's roots in one cut). By AI agents, Wed Nov 11 2026. No macro, syntax, notation, axiom, sorry.
-/
import Derived.Test.YtlokljaeknmdpaaGreatChecked
import GoSem.Claim
import GoSem.ClaimJoined
import GoSem.ClaimMapViews
import Derived.JoinedTies
import Derived.KernelRfl
namespace Go.Proofs.YtlokljaeknmdpaaGreat
/- THE CELL 'sum', in the pinned program and in every row, IS THE sha256 OF THE DUMP (.gsa) THAT YtlokljaeknmdpaaGreatProg.lean LOADS. Nothing in Lean hashes anything: it is a label: what it is worth is what the hold of that sum in a sandbox is worth. -/
noncomputable def Tryz.pinned : Pinned := { name := "ytlokljaeknmdpaagreat", sum := "3838f4603e22530cc29fd59ffadfb6ed2ed8a5f89838ed2cd2b48309779bb91a", checked := Tryz.checked }
namespace Rows
def none {H : Type} : Left H := { results := [], args := [] }

/-- 'thimblelaw10.AuditGraph': WHATEVER THE INPUT: true; the input reads as it did. -/
def auditGraphSpec : ChangeSpec := { name := "auditGraph", fn := fun _ => fun
  | [d1, d2, d3] => { results := [.lit (.bool true)], args := [d1, d2, d3] }
  | _ => none }
def auditGraphRow : OpenClaim := { program := "ytlokljaeknmdpaagreat", sum := "3838f4603e22530cc29fd59ffadfb6ed2ed8a5f89838ed2cd2b48309779bb91a", func := "thimble/thimblelaw10.AuditGraph", spec := "auditGraph", inPlace := ["internal/bytealg.IndexByteString", "internal/bytealg.IndexString"], unfollowed := true, recurses := true, named := ["internal/bytealg.MaxLen"], plainKeys := false, apart := false }
def AuditGraphSaid : Prop := auditGraphRow.holds Tryz.pinned (OpenSpec.ofChange auditGraphSpec)

/-- ITS FALSE NEIGHBOUR: 'it returns false'. Refute it at one input. -/
def auditGraphWrong : ChangeSpec := { name := "auditGraph", fn := fun _ => fun
  | [d1, d2, d3] => { results := [.lit (.bool false)], args := [d1, d2, d3] }
  | _ => none }
def AuditGraphWrongFalsely : Prop := auditGraphRow.holds Tryz.pinned (OpenSpec.ofChange auditGraphWrong)

/-- 'thimblelaw12.UndoBack': WHATEVER THE INPUT: true; the input reads as it did. -/
def undoBackSpec : ChangeSpec := { name := "undoBack", fn := fun _ => fun
  | [d1, d2] => { results := [.lit (.bool true)], args := [d1, d2] }
  | _ => none }
def undoBackRow : OpenClaim := { program := "ytlokljaeknmdpaagreat", sum := "3838f4603e22530cc29fd59ffadfb6ed2ed8a5f89838ed2cd2b48309779bb91a", func := "thimble/thimblelaw12.UndoBack", spec := "undoBack", inPlace := ["maps.clone", "internal/bytealg.IndexByteString", "internal/bytealg.IndexString"], unfollowed := true, recurses := true, named := ["internal/bytealg.MaxLen"], plainKeys := false, apart := false }
def UndoBackSaid : Prop := undoBackRow.holds Tryz.pinned (OpenSpec.ofChange undoBackSpec)

/-- ITS FALSE NEIGHBOUR: 'it returns false'. Refute it at one input. -/
def undoBackWrong : ChangeSpec := { name := "undoBack", fn := fun _ => fun
  | [d1, d2] => { results := [.lit (.bool false)], args := [d1, d2] }
  | _ => none }
def UndoBackWrongFalsely : Prop := undoBackRow.holds Tryz.pinned (OpenSpec.ofChange undoBackWrong)

/-- 'thimblelaw12.UndoFew': WHATEVER THE INPUT: true; the input reads as it did. -/
def undoFewSpec : ChangeSpec := { name := "undoFew", fn := fun _ => fun
  | [d1, d2] => { results := [.lit (.bool true)], args := [d1, d2] }
  | _ => none }
def undoFewRow : OpenClaim := { program := "ytlokljaeknmdpaagreat", sum := "3838f4603e22530cc29fd59ffadfb6ed2ed8a5f89838ed2cd2b48309779bb91a", func := "thimble/thimblelaw12.UndoFew", spec := "undoFew", inPlace := ["maps.clone", "internal/bytealg.IndexByteString", "internal/bytealg.IndexString"], unfollowed := true, recurses := true, named := ["internal/bytealg.MaxLen"], plainKeys := false, apart := false }
def UndoFewSaid : Prop := undoFewRow.holds Tryz.pinned (OpenSpec.ofChange undoFewSpec)

/-- ITS FALSE NEIGHBOUR: 'it returns false'. Refute it at one input. -/
def undoFewWrong : ChangeSpec := { name := "undoFew", fn := fun _ => fun
  | [d1, d2] => { results := [.lit (.bool false)], args := [d1, d2] }
  | _ => none }
def UndoFewWrongFalsely : Prop := undoFewRow.holds Tryz.pinned (OpenSpec.ofChange undoFewWrong)

/-- 'thimblelaw12.UndoThree': WHATEVER THE INPUT: true; the input reads as it did. -/
def undoThreeSpec : ChangeSpec := { name := "undoThree", fn := fun _ => fun
  | [d1, d2, d3] => { results := [.lit (.bool true)], args := [d1, d2, d3] }
  | _ => none }
def undoThreeRow : OpenClaim := { program := "ytlokljaeknmdpaagreat", sum := "3838f4603e22530cc29fd59ffadfb6ed2ed8a5f89838ed2cd2b48309779bb91a", func := "thimble/thimblelaw12.UndoThree", spec := "undoThree", inPlace := ["maps.clone", "internal/bytealg.IndexByteString", "internal/bytealg.IndexString"], unfollowed := true, recurses := true, named := ["internal/bytealg.MaxLen"], plainKeys := false, apart := false }
def UndoThreeSaid : Prop := undoThreeRow.holds Tryz.pinned (OpenSpec.ofChange undoThreeSpec)

/-- ITS FALSE NEIGHBOUR: 'it returns false'. Refute it at one input. -/
def undoThreeWrong : ChangeSpec := { name := "undoThree", fn := fun _ => fun
  | [d1, d2, d3] => { results := [.lit (.bool false)], args := [d1, d2, d3] }
  | _ => none }
def UndoThreeWrongFalsely : Prop := undoThreeRow.holds Tryz.pinned (OpenSpec.ofChange undoThreeWrong)

/-- 'thimblelaw13.FoldNext': WHATEVER THE INPUT: true; the input reads as it did. -/
def foldNextSpec : ChangeSpec := { name := "foldNext", fn := fun _ => fun
  | [d1, d2] => { results := [.lit (.bool true)], args := [d1, d2] }
  | _ => none }
def foldNextRow : OpenClaim := { program := "ytlokljaeknmdpaagreat", sum := "3838f4603e22530cc29fd59ffadfb6ed2ed8a5f89838ed2cd2b48309779bb91a", func := "thimble/thimblelaw13.FoldNext", spec := "foldNext", inPlace := ["maps.clone", "internal/bytealg.IndexByteString", "internal/bytealg.IndexString", "slices.overlaps[thimble/api.Op]"], unfollowed := true, recurses := true, named := ["internal/bytealg.MaxLen"], plainKeys := false, apart := false }
def FoldNextSaid : Prop := foldNextRow.holds Tryz.pinned (OpenSpec.ofChange foldNextSpec)

/-- ITS FALSE NEIGHBOUR: 'it returns false'. Refute it at one input. -/
def foldNextWrong : ChangeSpec := { name := "foldNext", fn := fun _ => fun
  | [d1, d2] => { results := [.lit (.bool false)], args := [d1, d2] }
  | _ => none }
def FoldNextWrongFalsely : Prop := foldNextRow.holds Tryz.pinned (OpenSpec.ofChange foldNextWrong)

/-- 'thimblelaw13.FoldIdle': WHATEVER THE INPUT: true; the input reads as it did. -/
def foldIdleSpec : ChangeSpec := { name := "foldIdle", fn := fun _ => fun
  | [d] => { results := [.lit (.bool true)], args := [d] }
  | _ => none }
def foldIdleRow : OpenClaim := { program := "ytlokljaeknmdpaagreat", sum := "3838f4603e22530cc29fd59ffadfb6ed2ed8a5f89838ed2cd2b48309779bb91a", func := "thimble/thimblelaw13.FoldIdle", spec := "foldIdle", inPlace := ["maps.clone", "internal/bytealg.IndexByteString", "internal/bytealg.IndexString", "slices.overlaps[thimble/api.Op]"], unfollowed := true, recurses := true, named := ["internal/bytealg.MaxLen"], plainKeys := false, apart := false }
def FoldIdleSaid : Prop := foldIdleRow.holds Tryz.pinned (OpenSpec.ofChange foldIdleSpec)

/-- ITS FALSE NEIGHBOUR: 'it returns false'. Refute it at one input. -/
def foldIdleWrong : ChangeSpec := { name := "foldIdle", fn := fun _ => fun
  | [d] => { results := [.lit (.bool false)], args := [d] }
  | _ => none }
def FoldIdleWrongFalsely : Prop := foldIdleRow.holds Tryz.pinned (OpenSpec.ofChange foldIdleWrong)

/-- 'thimblelaw13.FoldLater': WHATEVER THE INPUT: true; the input reads as it did. -/
def foldLaterSpec : ChangeSpec := { name := "foldLater", fn := fun _ => fun
  | [d1, d2, d3] => { results := [.lit (.bool true)], args := [d1, d2, d3] }
  | _ => none }
def foldLaterRow : OpenClaim := { program := "ytlokljaeknmdpaagreat", sum := "3838f4603e22530cc29fd59ffadfb6ed2ed8a5f89838ed2cd2b48309779bb91a", func := "thimble/thimblelaw13.FoldLater", spec := "foldLater", inPlace := ["maps.clone", "internal/bytealg.IndexByteString", "internal/bytealg.IndexString", "slices.overlaps[thimble/api.Op]"], unfollowed := true, recurses := true, named := ["internal/bytealg.MaxLen"], plainKeys := false, apart := false }
def FoldLaterSaid : Prop := foldLaterRow.holds Tryz.pinned (OpenSpec.ofChange foldLaterSpec)

/-- ITS FALSE NEIGHBOUR: 'it returns false'. Refute it at one input. -/
def foldLaterWrong : ChangeSpec := { name := "foldLater", fn := fun _ => fun
  | [d1, d2, d3] => { results := [.lit (.bool false)], args := [d1, d2, d3] }
  | _ => none }
def FoldLaterWrongFalsely : Prop := foldLaterRow.holds Tryz.pinned (OpenSpec.ofChange foldLaterWrong)

/-- 'thimblelaw13.FoldSplits': WHATEVER THE INPUT: true; the input reads as it did. -/
def foldSplitsSpec : ChangeSpec := { name := "foldSplits", fn := fun _ => fun
  | [d1, d2] => { results := [.lit (.bool true)], args := [d1, d2] }
  | _ => none }
def foldSplitsRow : OpenClaim := { program := "ytlokljaeknmdpaagreat", sum := "3838f4603e22530cc29fd59ffadfb6ed2ed8a5f89838ed2cd2b48309779bb91a", func := "thimble/thimblelaw13.FoldSplits", spec := "foldSplits", inPlace := ["maps.clone", "internal/bytealg.IndexByteString", "internal/bytealg.IndexString", "slices.overlaps[thimble/api.Op]"], unfollowed := true, recurses := true, named := ["internal/bytealg.MaxLen"], plainKeys := false, apart := false }
def FoldSplitsSaid : Prop := foldSplitsRow.holds Tryz.pinned (OpenSpec.ofChange foldSplitsSpec)

/-- ITS FALSE NEIGHBOUR: 'it returns false'. Refute it at one input. -/
def foldSplitsWrong : ChangeSpec := { name := "foldSplits", fn := fun _ => fun
  | [d1, d2] => { results := [.lit (.bool false)], args := [d1, d2] }
  | _ => none }
def FoldSplitsWrongFalsely : Prop := foldSplitsRow.holds Tryz.pinned (OpenSpec.ofChange foldSplitsWrong)

/-- 'thimblelaw13.FoldSorted': WHATEVER THE INPUT: true; the input reads as it did. -/
def foldSortedSpec : ChangeSpec := { name := "foldSorted", fn := fun _ => fun
  | [d] => { results := [.lit (.bool true)], args := [d] }
  | _ => none }
def foldSortedRow : OpenClaim := { program := "ytlokljaeknmdpaagreat", sum := "3838f4603e22530cc29fd59ffadfb6ed2ed8a5f89838ed2cd2b48309779bb91a", func := "thimble/thimblelaw13.FoldSorted", spec := "foldSorted", inPlace := ["maps.clone", "internal/bytealg.IndexByteString", "internal/bytealg.IndexString", "slices.overlaps[thimble/api.Op]"], unfollowed := true, recurses := true, named := ["internal/bytealg.MaxLen"], plainKeys := false, apart := false }
def FoldSortedSaid : Prop := foldSortedRow.holds Tryz.pinned (OpenSpec.ofChange foldSortedSpec)

/-- ITS FALSE NEIGHBOUR: 'it returns false'. Refute it at one input. -/
def foldSortedWrong : ChangeSpec := { name := "foldSorted", fn := fun _ => fun
  | [d] => { results := [.lit (.bool false)], args := [d] }
  | _ => none }
def FoldSortedWrongFalsely : Prop := foldSortedRow.holds Tryz.pinned (OpenSpec.ofChange foldSortedWrong)

/-- 'thimblelaw14.OplogOrder': WHATEVER THE INPUT: true; the input reads as it did. -/
def oplogOrderSpec : ChangeSpec := { name := "oplogOrder", fn := fun _ => fun
  | [d1, d2] => { results := [.lit (.bool true)], args := [d1, d2] }
  | _ => none }
def oplogOrderRow : OpenClaim := { program := "ytlokljaeknmdpaagreat", sum := "3838f4603e22530cc29fd59ffadfb6ed2ed8a5f89838ed2cd2b48309779bb91a", func := "thimble/thimblelaw14.OplogOrder", spec := "oplogOrder", inPlace := ["maps.clone", "internal/bytealg.IndexByteString", "internal/bytealg.IndexString", "slices.overlaps[thimble/api.Op]"], unfollowed := true, recurses := true, named := ["internal/bytealg.MaxLen"], plainKeys := false, apart := false }
def OplogOrderSaid : Prop := oplogOrderRow.holds Tryz.pinned (OpenSpec.ofChange oplogOrderSpec)

/-- ITS FALSE NEIGHBOUR: 'it returns false'. Refute it at one input. -/
def oplogOrderWrong : ChangeSpec := { name := "oplogOrder", fn := fun _ => fun
  | [d1, d2] => { results := [.lit (.bool false)], args := [d1, d2] }
  | _ => none }
def OplogOrderWrongFalsely : Prop := oplogOrderRow.holds Tryz.pinned (OpenSpec.ofChange oplogOrderWrong)

/-- 'thimblelaw13.FoldConverges': WHATEVER THE INPUT: true; the input reads as it did. -/
def foldConvergesSpec : ChangeSpec := { name := "foldConverges", fn := fun _ => fun
  | [d1, d2] => { results := [.lit (.bool true)], args := [d1, d2] }
  | _ => none }
def foldConvergesRow : OpenClaim := { program := "ytlokljaeknmdpaagreat", sum := "3838f4603e22530cc29fd59ffadfb6ed2ed8a5f89838ed2cd2b48309779bb91a", func := "thimble/thimblelaw13.FoldConverges", spec := "foldConverges", inPlace := ["maps.clone", "internal/bytealg.IndexByteString", "internal/bytealg.IndexString", "slices.overlaps[thimble/api.Op]"], unfollowed := true, recurses := true, named := ["internal/bytealg.MaxLen"], plainKeys := false, apart := false }
def FoldConvergesSaid : Prop := foldConvergesRow.holds Tryz.pinned (OpenSpec.ofChange foldConvergesSpec)

/-- ITS FALSE NEIGHBOUR: 'it returns false'. Refute it at one input. -/
def foldConvergesWrong : ChangeSpec := { name := "foldConverges", fn := fun _ => fun
  | [d1, d2] => { results := [.lit (.bool false)], args := [d1, d2] }
  | _ => none }
def FoldConvergesWrongFalsely : Prop := foldConvergesRow.holds Tryz.pinned (OpenSpec.ofChange foldConvergesWrong)

/-- 'thimblelaw14.OplogTwice': WHATEVER THE INPUT: true; the input reads as it did. -/
def oplogTwiceSpec : ChangeSpec := { name := "oplogTwice", fn := fun _ => fun
  | [d1, d2, d3] => { results := [.lit (.bool true)], args := [d1, d2, d3] }
  | _ => none }
def oplogTwiceRow : OpenClaim := { program := "ytlokljaeknmdpaagreat", sum := "3838f4603e22530cc29fd59ffadfb6ed2ed8a5f89838ed2cd2b48309779bb91a", func := "thimble/thimblelaw14.OplogTwice", spec := "oplogTwice", inPlace := ["maps.clone", "internal/bytealg.IndexByteString", "internal/bytealg.IndexString", "slices.overlaps[thimble/api.Op]"], unfollowed := true, recurses := true, named := ["internal/bytealg.MaxLen"], plainKeys := false, apart := false }
def OplogTwiceSaid : Prop := oplogTwiceRow.holds Tryz.pinned (OpenSpec.ofChange oplogTwiceSpec)

/-- ITS FALSE NEIGHBOUR: 'it returns false'. Refute it at one input. -/
def oplogTwiceWrong : ChangeSpec := { name := "oplogTwice", fn := fun _ => fun
  | [d1, d2, d3] => { results := [.lit (.bool false)], args := [d1, d2, d3] }
  | _ => none }
def OplogTwiceWrongFalsely : Prop := oplogTwiceRow.holds Tryz.pinned (OpenSpec.ofChange oplogTwiceWrong)

/-- 'thimblelaw14.OplogTheorem': WHATEVER THE INPUT: true; the input reads as it did. -/
def oplogTheoremSpec : ChangeSpec := { name := "oplogTheorem", fn := fun _ => fun
  | [d] => { results := [.lit (.bool true)], args := [d] }
  | _ => none }
def oplogTheoremRow : OpenClaim := { program := "ytlokljaeknmdpaagreat", sum := "3838f4603e22530cc29fd59ffadfb6ed2ed8a5f89838ed2cd2b48309779bb91a", func := "thimble/thimblelaw14.OplogTheorem", spec := "oplogTheorem", inPlace := ["maps.clone", "internal/bytealg.IndexByteString", "internal/bytealg.IndexString", "slices.overlaps[thimble/api.Op]"], unfollowed := true, recurses := true, named := ["internal/bytealg.MaxLen"], plainKeys := false, apart := false }
def OplogTheoremSaid : Prop := oplogTheoremRow.holds Tryz.pinned (OpenSpec.ofChange oplogTheoremSpec)

/-- ITS FALSE NEIGHBOUR: 'it returns false'. Refute it at one input. -/
def oplogTheoremWrong : ChangeSpec := { name := "oplogTheorem", fn := fun _ => fun
  | [d] => { results := [.lit (.bool false)], args := [d] }
  | _ => none }
def OplogTheoremWrongFalsely : Prop := oplogTheoremRow.holds Tryz.pinned (OpenSpec.ofChange oplogTheoremWrong)

/-- 'thimblelaw14.OplogCopies': WHATEVER THE INPUT: true; the input reads as it did. -/
def oplogCopiesSpec : ChangeSpec := { name := "oplogCopies", fn := fun _ => fun
  | [d1, d2, d3] => { results := [.lit (.bool true)], args := [d1, d2, d3] }
  | _ => none }
def oplogCopiesRow : OpenClaim := { program := "ytlokljaeknmdpaagreat", sum := "3838f4603e22530cc29fd59ffadfb6ed2ed8a5f89838ed2cd2b48309779bb91a", func := "thimble/thimblelaw14.OplogCopies", spec := "oplogCopies", inPlace := ["maps.clone", "internal/bytealg.IndexByteString", "internal/bytealg.IndexString", "slices.overlaps[thimble/api.Op]"], unfollowed := true, recurses := true, named := ["internal/bytealg.MaxLen"], plainKeys := false, apart := false }
def OplogCopiesSaid : Prop := oplogCopiesRow.holds Tryz.pinned (OpenSpec.ofChange oplogCopiesSpec)

/-- ITS FALSE NEIGHBOUR: 'it returns false'. Refute it at one input. -/
def oplogCopiesWrong : ChangeSpec := { name := "oplogCopies", fn := fun _ => fun
  | [d1, d2, d3] => { results := [.lit (.bool false)], args := [d1, d2, d3] }
  | _ => none }
def OplogCopiesWrongFalsely : Prop := oplogCopiesRow.holds Tryz.pinned (OpenSpec.ofChange oplogCopiesWrong)

/- THE SECOND FORM. 'bulk': how many values and letters a reading holds, each counted each time it is reached (what is shared counts as often as it is met; a slice's spare places count too). A statement '..UptoSaid' is the law's where the arguments, and the package variables that the reading takes, are together of bulk at most 1048576: NARROWER than '..Said'. Prove '..Said' where nothing that the law and all that it calls make is longer than what came in: it says more and counts as full. Else prove '..UptoSaid'. A law counts once. -/
mutual
def uptoBulk {H : Type} : DataW H → Nat
  | .lit (.string bytes) => bytes.length + 1
  | .lit _ => 1
  | .nil => 1
  | .ptr d => uptoBulk d + 1
  | .slice elems spare => uptoBulkAll elems + uptoBulkAll spare + 1
  | .agg parts => uptoBulkAll parts + 1
  | .iface _ d => uptoBulk d + 1
  | .map entries => uptoBulkEntries entries + 1
  | .held _ => 1
def uptoBulkAll {H : Type} : List (DataW H) → Nat
  | [] => 0
  | d :: r => uptoBulk d + uptoBulkAll r
def uptoBulkEntries {H : Type} : List (Lit × DataW H) → Nat
  | [] => 0
  | x :: r => uptoBulkEntry x + uptoBulkEntries r
def uptoBulkEntry {H : Type} : Lit × DataW H → Nat
  | (.string bytes, d) => bytes.length + uptoBulk d + 1
  | (_, d) => uptoBulk d + 1
 end
def uptoSmall : (H : Type) → List (DataW H) → Bool := fun _ ds => decide (uptoBulkAll ds ≤ 1048576)
def OpenSpec.upto (s : _root_.Go.ChangeSpec) : _root_.Go.OpenSpec := { _root_.Go.OpenSpec.ofChange s with cond := some uptoSmall }

/-- 'thimblelaw10.AuditGraph', WHERE WHAT IT READS IS OF BULK AT MOST 1048576: true; the input reads as it did. -/
def auditGraphUptoRow : OpenClaim := { program := "ytlokljaeknmdpaagreat", sum := "3838f4603e22530cc29fd59ffadfb6ed2ed8a5f89838ed2cd2b48309779bb91a", func := "thimble/thimblelaw10.AuditGraph", spec := "auditGraph", inPlace := ["internal/bytealg.IndexByteString", "internal/bytealg.IndexString"], unfollowed := true, recurses := true, named := ["internal/bytealg.MaxLen"], plainKeys := false, apart := false, narrowed := true }
def AuditGraphUptoSaid : Prop := auditGraphUptoRow.holds Tryz.pinned (OpenSpec.upto auditGraphSpec)

/-- 'thimblelaw12.UndoBack', WHERE WHAT IT READS IS OF BULK AT MOST 1048576: true; the input reads as it did. -/
def undoBackUptoRow : OpenClaim := { program := "ytlokljaeknmdpaagreat", sum := "3838f4603e22530cc29fd59ffadfb6ed2ed8a5f89838ed2cd2b48309779bb91a", func := "thimble/thimblelaw12.UndoBack", spec := "undoBack", inPlace := ["maps.clone", "internal/bytealg.IndexByteString", "internal/bytealg.IndexString"], unfollowed := true, recurses := true, named := ["internal/bytealg.MaxLen"], plainKeys := false, apart := false, narrowed := true }
def UndoBackUptoSaid : Prop := undoBackUptoRow.holds Tryz.pinned (OpenSpec.upto undoBackSpec)

/-- 'thimblelaw12.UndoFew', WHERE WHAT IT READS IS OF BULK AT MOST 1048576: true; the input reads as it did. -/
def undoFewUptoRow : OpenClaim := { program := "ytlokljaeknmdpaagreat", sum := "3838f4603e22530cc29fd59ffadfb6ed2ed8a5f89838ed2cd2b48309779bb91a", func := "thimble/thimblelaw12.UndoFew", spec := "undoFew", inPlace := ["maps.clone", "internal/bytealg.IndexByteString", "internal/bytealg.IndexString"], unfollowed := true, recurses := true, named := ["internal/bytealg.MaxLen"], plainKeys := false, apart := false, narrowed := true }
def UndoFewUptoSaid : Prop := undoFewUptoRow.holds Tryz.pinned (OpenSpec.upto undoFewSpec)

/-- 'thimblelaw12.UndoThree', WHERE WHAT IT READS IS OF BULK AT MOST 1048576: true; the input reads as it did. -/
def undoThreeUptoRow : OpenClaim := { program := "ytlokljaeknmdpaagreat", sum := "3838f4603e22530cc29fd59ffadfb6ed2ed8a5f89838ed2cd2b48309779bb91a", func := "thimble/thimblelaw12.UndoThree", spec := "undoThree", inPlace := ["maps.clone", "internal/bytealg.IndexByteString", "internal/bytealg.IndexString"], unfollowed := true, recurses := true, named := ["internal/bytealg.MaxLen"], plainKeys := false, apart := false, narrowed := true }
def UndoThreeUptoSaid : Prop := undoThreeUptoRow.holds Tryz.pinned (OpenSpec.upto undoThreeSpec)

/-- 'thimblelaw13.FoldNext', WHERE WHAT IT READS IS OF BULK AT MOST 1048576: true; the input reads as it did. -/
def foldNextUptoRow : OpenClaim := { program := "ytlokljaeknmdpaagreat", sum := "3838f4603e22530cc29fd59ffadfb6ed2ed8a5f89838ed2cd2b48309779bb91a", func := "thimble/thimblelaw13.FoldNext", spec := "foldNext", inPlace := ["maps.clone", "internal/bytealg.IndexByteString", "internal/bytealg.IndexString", "slices.overlaps[thimble/api.Op]"], unfollowed := true, recurses := true, named := ["internal/bytealg.MaxLen"], plainKeys := false, apart := false, narrowed := true }
def FoldNextUptoSaid : Prop := foldNextUptoRow.holds Tryz.pinned (OpenSpec.upto foldNextSpec)

/-- 'thimblelaw13.FoldIdle', WHERE WHAT IT READS IS OF BULK AT MOST 1048576: true; the input reads as it did. -/
def foldIdleUptoRow : OpenClaim := { program := "ytlokljaeknmdpaagreat", sum := "3838f4603e22530cc29fd59ffadfb6ed2ed8a5f89838ed2cd2b48309779bb91a", func := "thimble/thimblelaw13.FoldIdle", spec := "foldIdle", inPlace := ["maps.clone", "internal/bytealg.IndexByteString", "internal/bytealg.IndexString", "slices.overlaps[thimble/api.Op]"], unfollowed := true, recurses := true, named := ["internal/bytealg.MaxLen"], plainKeys := false, apart := false, narrowed := true }
def FoldIdleUptoSaid : Prop := foldIdleUptoRow.holds Tryz.pinned (OpenSpec.upto foldIdleSpec)

/-- 'thimblelaw13.FoldLater', WHERE WHAT IT READS IS OF BULK AT MOST 1048576: true; the input reads as it did. -/
def foldLaterUptoRow : OpenClaim := { program := "ytlokljaeknmdpaagreat", sum := "3838f4603e22530cc29fd59ffadfb6ed2ed8a5f89838ed2cd2b48309779bb91a", func := "thimble/thimblelaw13.FoldLater", spec := "foldLater", inPlace := ["maps.clone", "internal/bytealg.IndexByteString", "internal/bytealg.IndexString", "slices.overlaps[thimble/api.Op]"], unfollowed := true, recurses := true, named := ["internal/bytealg.MaxLen"], plainKeys := false, apart := false, narrowed := true }
def FoldLaterUptoSaid : Prop := foldLaterUptoRow.holds Tryz.pinned (OpenSpec.upto foldLaterSpec)

/-- 'thimblelaw13.FoldSplits', WHERE WHAT IT READS IS OF BULK AT MOST 1048576: true; the input reads as it did. -/
def foldSplitsUptoRow : OpenClaim := { program := "ytlokljaeknmdpaagreat", sum := "3838f4603e22530cc29fd59ffadfb6ed2ed8a5f89838ed2cd2b48309779bb91a", func := "thimble/thimblelaw13.FoldSplits", spec := "foldSplits", inPlace := ["maps.clone", "internal/bytealg.IndexByteString", "internal/bytealg.IndexString", "slices.overlaps[thimble/api.Op]"], unfollowed := true, recurses := true, named := ["internal/bytealg.MaxLen"], plainKeys := false, apart := false, narrowed := true }
def FoldSplitsUptoSaid : Prop := foldSplitsUptoRow.holds Tryz.pinned (OpenSpec.upto foldSplitsSpec)

/-- 'thimblelaw13.FoldSorted', WHERE WHAT IT READS IS OF BULK AT MOST 1048576: true; the input reads as it did. -/
def foldSortedUptoRow : OpenClaim := { program := "ytlokljaeknmdpaagreat", sum := "3838f4603e22530cc29fd59ffadfb6ed2ed8a5f89838ed2cd2b48309779bb91a", func := "thimble/thimblelaw13.FoldSorted", spec := "foldSorted", inPlace := ["maps.clone", "internal/bytealg.IndexByteString", "internal/bytealg.IndexString", "slices.overlaps[thimble/api.Op]"], unfollowed := true, recurses := true, named := ["internal/bytealg.MaxLen"], plainKeys := false, apart := false, narrowed := true }
def FoldSortedUptoSaid : Prop := foldSortedUptoRow.holds Tryz.pinned (OpenSpec.upto foldSortedSpec)

/-- 'thimblelaw14.OplogOrder', WHERE WHAT IT READS IS OF BULK AT MOST 1048576: true; the input reads as it did. -/
def oplogOrderUptoRow : OpenClaim := { program := "ytlokljaeknmdpaagreat", sum := "3838f4603e22530cc29fd59ffadfb6ed2ed8a5f89838ed2cd2b48309779bb91a", func := "thimble/thimblelaw14.OplogOrder", spec := "oplogOrder", inPlace := ["maps.clone", "internal/bytealg.IndexByteString", "internal/bytealg.IndexString", "slices.overlaps[thimble/api.Op]"], unfollowed := true, recurses := true, named := ["internal/bytealg.MaxLen"], plainKeys := false, apart := false, narrowed := true }
def OplogOrderUptoSaid : Prop := oplogOrderUptoRow.holds Tryz.pinned (OpenSpec.upto oplogOrderSpec)

/-- 'thimblelaw13.FoldConverges', WHERE WHAT IT READS IS OF BULK AT MOST 1048576: true; the input reads as it did. -/
def foldConvergesUptoRow : OpenClaim := { program := "ytlokljaeknmdpaagreat", sum := "3838f4603e22530cc29fd59ffadfb6ed2ed8a5f89838ed2cd2b48309779bb91a", func := "thimble/thimblelaw13.FoldConverges", spec := "foldConverges", inPlace := ["maps.clone", "internal/bytealg.IndexByteString", "internal/bytealg.IndexString", "slices.overlaps[thimble/api.Op]"], unfollowed := true, recurses := true, named := ["internal/bytealg.MaxLen"], plainKeys := false, apart := false, narrowed := true }
def FoldConvergesUptoSaid : Prop := foldConvergesUptoRow.holds Tryz.pinned (OpenSpec.upto foldConvergesSpec)

/-- 'thimblelaw14.OplogTwice', WHERE WHAT IT READS IS OF BULK AT MOST 1048576: true; the input reads as it did. -/
def oplogTwiceUptoRow : OpenClaim := { program := "ytlokljaeknmdpaagreat", sum := "3838f4603e22530cc29fd59ffadfb6ed2ed8a5f89838ed2cd2b48309779bb91a", func := "thimble/thimblelaw14.OplogTwice", spec := "oplogTwice", inPlace := ["maps.clone", "internal/bytealg.IndexByteString", "internal/bytealg.IndexString", "slices.overlaps[thimble/api.Op]"], unfollowed := true, recurses := true, named := ["internal/bytealg.MaxLen"], plainKeys := false, apart := false, narrowed := true }
def OplogTwiceUptoSaid : Prop := oplogTwiceUptoRow.holds Tryz.pinned (OpenSpec.upto oplogTwiceSpec)

/-- 'thimblelaw14.OplogTheorem', WHERE WHAT IT READS IS OF BULK AT MOST 1048576: true; the input reads as it did. -/
def oplogTheoremUptoRow : OpenClaim := { program := "ytlokljaeknmdpaagreat", sum := "3838f4603e22530cc29fd59ffadfb6ed2ed8a5f89838ed2cd2b48309779bb91a", func := "thimble/thimblelaw14.OplogTheorem", spec := "oplogTheorem", inPlace := ["maps.clone", "internal/bytealg.IndexByteString", "internal/bytealg.IndexString", "slices.overlaps[thimble/api.Op]"], unfollowed := true, recurses := true, named := ["internal/bytealg.MaxLen"], plainKeys := false, apart := false, narrowed := true }
def OplogTheoremUptoSaid : Prop := oplogTheoremUptoRow.holds Tryz.pinned (OpenSpec.upto oplogTheoremSpec)

/-- 'thimblelaw14.OplogCopies', WHERE WHAT IT READS IS OF BULK AT MOST 1048576: true; the input reads as it did. -/
def oplogCopiesUptoRow : OpenClaim := { program := "ytlokljaeknmdpaagreat", sum := "3838f4603e22530cc29fd59ffadfb6ed2ed8a5f89838ed2cd2b48309779bb91a", func := "thimble/thimblelaw14.OplogCopies", spec := "oplogCopies", inPlace := ["maps.clone", "internal/bytealg.IndexByteString", "internal/bytealg.IndexString", "slices.overlaps[thimble/api.Op]"], unfollowed := true, recurses := true, named := ["internal/bytealg.MaxLen"], plainKeys := false, apart := false, narrowed := true }
def OplogCopiesUptoSaid : Prop := oplogCopiesUptoRow.holds Tryz.pinned (OpenSpec.upto oplogCopiesSpec)

end Rows
end Go.Proofs.YtlokljaeknmdpaaGreat
