/-
  No cell of these rows narrows 'for every input' (looked for: loops, veiled, ifaces, maps, wideKeys, modest, calm, conditions, laid).
  DERIVED. THE GIVEN ROWS OF THIS SEAT. 8 by the template 'for every input the law returns true; each argument reads behind the call as it read before'; 0 by the template 'total and deterministic' (their statements: YtmnkaohhjhjciaaTotals.lean).
  GIVEN WITH THE SEED: the statements are not yours to turn. If you find one false, say at which input.
  Laid BY PROGRAM, IN A SANDBOX (cutbox-rows.mjs): the forced cells as the released guide's own fill.sh prints them over the translation 4466fb0db401b714… (all of the seat's roots in one cut). By AI agents, Wed Nov 11 2026. No macro, syntax, notation, axiom, sorry.
-/
import Derived.Test.YtmnkaohhjhjciaaChecked
import GoSem.Claim
import GoSem.ClaimJoined
import GoSem.ClaimMapViews
import Derived.JoinedTies
import Derived.KernelRfl
namespace Go.Proofs.Ytmnkaohhjhjciaa
/- THE CELL 'sum', in the pinned program and in every row, IS THE sha256 OF THE DUMP (.gsa) THAT YtmnkaohhjhjciaaProg.lean LOADS. Nothing in Lean hashes anything: it is a label: what it is worth is what the hold of that sum in a sandbox is worth. -/
noncomputable def Try.pinned : Pinned := { name := "ytmnkaohhjhjciaa", sum := "4466fb0db401b714f3d74c841983a040ef389ca5f57414402412e3a139d98b22", checked := Try.checked }
namespace Rows
def none {H : Type} : Left H := { results := [], args := [] }

/-- 'thimblelaw10.AuditLess': WHATEVER THE INPUT: true; the input reads as it did. -/
def auditLessSpec : ChangeSpec := { name := "auditLess", fn := fun _ => fun
  | [d1, d2, d3] => { results := [.lit (.bool true)], args := [d1, d2, d3] }
  | _ => none }
def auditLessRow : OpenClaim := { program := "ytmnkaohhjhjciaa", sum := "4466fb0db401b714f3d74c841983a040ef389ca5f57414402412e3a139d98b22", func := "thimble/thimblelaw10.AuditLess", spec := "auditLess", inPlace := ["internal/bytealg.IndexByteString", "internal/bytealg.IndexString"], unfollowed := true, recurses := true, named := ["internal/bytealg.MaxLen"], plainKeys := false, apart := false }
def AuditLessSaid : Prop := auditLessRow.holds Try.pinned (OpenSpec.ofChange auditLessSpec)

/-- ITS FALSE NEIGHBOUR: 'it returns false'. Refute it at one input. -/
def auditLessWrong : ChangeSpec := { name := "auditLess", fn := fun _ => fun
  | [d1, d2, d3] => { results := [.lit (.bool false)], args := [d1, d2, d3] }
  | _ => none }
def AuditLessWrongFalsely : Prop := auditLessRow.holds Try.pinned (OpenSpec.ofChange auditLessWrong)

/-- 'thimblelaw10.AuditTree': WHATEVER THE INPUT: true; the input reads as it did. -/
def auditTreeSpec : ChangeSpec := { name := "auditTree", fn := fun _ => fun
  | [d1, d2] => { results := [.lit (.bool true)], args := [d1, d2] }
  | _ => none }
def auditTreeRow : OpenClaim := { program := "ytmnkaohhjhjciaa", sum := "4466fb0db401b714f3d74c841983a040ef389ca5f57414402412e3a139d98b22", func := "thimble/thimblelaw10.AuditTree", spec := "auditTree", inPlace := ["internal/bytealg.IndexByteString", "internal/bytealg.IndexString"], unfollowed := true, recurses := true, named := ["internal/bytealg.MaxLen"], plainKeys := false, apart := false }
def AuditTreeSaid : Prop := auditTreeRow.holds Try.pinned (OpenSpec.ofChange auditTreeSpec)

/-- ITS FALSE NEIGHBOUR: 'it returns false'. Refute it at one input. -/
def auditTreeWrong : ChangeSpec := { name := "auditTree", fn := fun _ => fun
  | [d1, d2] => { results := [.lit (.bool false)], args := [d1, d2] }
  | _ => none }
def AuditTreeWrongFalsely : Prop := auditTreeRow.holds Try.pinned (OpenSpec.ofChange auditTreeWrong)

/-- 'thimblelaw10.AuditReaches': WHATEVER THE INPUT: true; the input reads as it did. -/
def auditReachesSpec : ChangeSpec := { name := "auditReaches", fn := fun _ => fun
  | [d1, d2, d3] => { results := [.lit (.bool true)], args := [d1, d2, d3] }
  | _ => none }
def auditReachesRow : OpenClaim := { program := "ytmnkaohhjhjciaa", sum := "4466fb0db401b714f3d74c841983a040ef389ca5f57414402412e3a139d98b22", func := "thimble/thimblelaw10.AuditReaches", spec := "auditReaches", inPlace := ["internal/bytealg.IndexByteString", "internal/bytealg.IndexString"], unfollowed := true, recurses := true, named := ["internal/bytealg.MaxLen"], plainKeys := false, apart := false }
def AuditReachesSaid : Prop := auditReachesRow.holds Try.pinned (OpenSpec.ofChange auditReachesSpec)

/-- ITS FALSE NEIGHBOUR: 'it returns false'. Refute it at one input. -/
def auditReachesWrong : ChangeSpec := { name := "auditReaches", fn := fun _ => fun
  | [d1, d2, d3] => { results := [.lit (.bool false)], args := [d1, d2, d3] }
  | _ => none }
def AuditReachesWrongFalsely : Prop := auditReachesRow.holds Try.pinned (OpenSpec.ofChange auditReachesWrong)

/-- 'thimblelaw09.GraphTells': WHATEVER THE INPUT: true; the input reads as it did. -/
def graphTellsSpec : ChangeSpec := { name := "graphTells", fn := fun _ => fun
  | [d1, d2] => { results := [.lit (.bool true)], args := [d1, d2] }
  | _ => none }
def graphTellsRow : OpenClaim := { program := "ytmnkaohhjhjciaa", sum := "4466fb0db401b714f3d74c841983a040ef389ca5f57414402412e3a139d98b22", func := "thimble/thimblelaw09.GraphTells", spec := "graphTells", inPlace := ["internal/bytealg.IndexByteString", "internal/bytealg.IndexString"], unfollowed := true, recurses := true, named := ["internal/bytealg.MaxLen"], plainKeys := false, apart := false }
def GraphTellsSaid : Prop := graphTellsRow.holds Try.pinned (OpenSpec.ofChange graphTellsSpec)

/-- ITS FALSE NEIGHBOUR: 'it returns false'. Refute it at one input. -/
def graphTellsWrong : ChangeSpec := { name := "graphTells", fn := fun _ => fun
  | [d1, d2] => { results := [.lit (.bool false)], args := [d1, d2] }
  | _ => none }
def GraphTellsWrongFalsely : Prop := graphTellsRow.holds Try.pinned (OpenSpec.ofChange graphTellsWrong)

/-- 'thimblelaw09.GraphUnders': WHATEVER THE INPUT: true; the input reads as it did. -/
def graphUndersSpec : ChangeSpec := { name := "graphUnders", fn := fun _ => fun
  | [d1, d2, d3, d4] => { results := [.lit (.bool true)], args := [d1, d2, d3, d4] }
  | _ => none }
def graphUndersRow : OpenClaim := { program := "ytmnkaohhjhjciaa", sum := "4466fb0db401b714f3d74c841983a040ef389ca5f57414402412e3a139d98b22", func := "thimble/thimblelaw09.GraphUnders", spec := "graphUnders", inPlace := ["internal/bytealg.IndexByteString", "internal/bytealg.IndexString"], unfollowed := true, recurses := true, named := ["internal/bytealg.MaxLen"], plainKeys := false, apart := false }
def GraphUndersSaid : Prop := graphUndersRow.holds Try.pinned (OpenSpec.ofChange graphUndersSpec)

/-- ITS FALSE NEIGHBOUR: 'it returns false'. Refute it at one input. -/
def graphUndersWrong : ChangeSpec := { name := "graphUnders", fn := fun _ => fun
  | [d1, d2, d3, d4] => { results := [.lit (.bool false)], args := [d1, d2, d3, d4] }
  | _ => none }
def GraphUndersWrongFalsely : Prop := graphUndersRow.holds Try.pinned (OpenSpec.ofChange graphUndersWrong)

/-- 'thimblelaw09.GraphCounts': WHATEVER THE INPUT: true; the input reads as it did. -/
def graphCountsSpec : ChangeSpec := { name := "graphCounts", fn := fun _ => fun
  | [d] => { results := [.lit (.bool true)], args := [d] }
  | _ => none }
def graphCountsRow : OpenClaim := { program := "ytmnkaohhjhjciaa", sum := "4466fb0db401b714f3d74c841983a040ef389ca5f57414402412e3a139d98b22", func := "thimble/thimblelaw09.GraphCounts", spec := "graphCounts", inPlace := ["internal/bytealg.IndexByteString", "internal/bytealg.IndexString"], unfollowed := true, recurses := true, named := ["internal/bytealg.MaxLen"], plainKeys := false, apart := false }
def GraphCountsSaid : Prop := graphCountsRow.holds Try.pinned (OpenSpec.ofChange graphCountsSpec)

/-- ITS FALSE NEIGHBOUR: 'it returns false'. Refute it at one input. -/
def graphCountsWrong : ChangeSpec := { name := "graphCounts", fn := fun _ => fun
  | [d] => { results := [.lit (.bool false)], args := [d] }
  | _ => none }
def GraphCountsWrongFalsely : Prop := graphCountsRow.holds Try.pinned (OpenSpec.ofChange graphCountsWrong)

/-- 'thimblelaw09.GraphNothing': WHATEVER THE INPUT: true; the input reads as it did. -/
def graphNothingSpec : ChangeSpec := { name := "graphNothing", fn := fun _ => fun
  | [d1, d2] => { results := [.lit (.bool true)], args := [d1, d2] }
  | _ => none }
def graphNothingRow : OpenClaim := { program := "ytmnkaohhjhjciaa", sum := "4466fb0db401b714f3d74c841983a040ef389ca5f57414402412e3a139d98b22", func := "thimble/thimblelaw09.GraphNothing", spec := "graphNothing", inPlace := ["internal/bytealg.IndexByteString", "internal/bytealg.IndexString", "maps.clone"], unfollowed := true, recurses := true, named := ["internal/bytealg.MaxLen"], plainKeys := false, apart := false }
def GraphNothingSaid : Prop := graphNothingRow.holds Try.pinned (OpenSpec.ofChange graphNothingSpec)

/-- ITS FALSE NEIGHBOUR: 'it returns false'. Refute it at one input. -/
def graphNothingWrong : ChangeSpec := { name := "graphNothing", fn := fun _ => fun
  | [d1, d2] => { results := [.lit (.bool false)], args := [d1, d2] }
  | _ => none }
def GraphNothingWrongFalsely : Prop := graphNothingRow.holds Try.pinned (OpenSpec.ofChange graphNothingWrong)

/-- 'thimblelaw09.GraphFresh': WHATEVER THE INPUT: true; the input reads as it did. -/
def graphFreshSpec : ChangeSpec := { name := "graphFresh", fn := fun _ => fun
  | [d1, d2] => { results := [.lit (.bool true)], args := [d1, d2] }
  | _ => none }
def graphFreshRow : OpenClaim := { program := "ytmnkaohhjhjciaa", sum := "4466fb0db401b714f3d74c841983a040ef389ca5f57414402412e3a139d98b22", func := "thimble/thimblelaw09.GraphFresh", spec := "graphFresh", inPlace := ["internal/bytealg.IndexByteString", "internal/bytealg.IndexString", "maps.clone"], unfollowed := true, recurses := true, named := ["internal/bytealg.MaxLen"], plainKeys := false, apart := false }
def GraphFreshSaid : Prop := graphFreshRow.holds Try.pinned (OpenSpec.ofChange graphFreshSpec)

/-- ITS FALSE NEIGHBOUR: 'it returns false'. Refute it at one input. -/
def graphFreshWrong : ChangeSpec := { name := "graphFresh", fn := fun _ => fun
  | [d1, d2] => { results := [.lit (.bool false)], args := [d1, d2] }
  | _ => none }
def GraphFreshWrongFalsely : Prop := graphFreshRow.holds Try.pinned (OpenSpec.ofChange graphFreshWrong)

/- THE SECOND FORM. 'bulk': how many values and letters a reading holds, each counted each time it is reached (what is shared counts as often as it is met; a slice's spare places count too). A statement '..UptoSaid' is the law's where the arguments, and the package variables that the reading takes, are together of bulk at most 1048576: NARROWER than '..Said'. Prove '..Said' where nothing that the law and all that it calls make is longer than what came in: it says more and counts as full. Else prove '..UptoSaid'. A law counts once. -/
mutual
def uptoBulk {H : Type} : DataW H → Nat
  | .lit (.string bytes) => bytes.length + 1
  | .lit _ => 1
  | .nil => 1
  | .ptr d => uptoBulk d + 1
  | .slice elems spare => uptoBulkAll elems + uptoBulkAll spare + 1
  | .agg parts => uptoBulkAll parts + 1
  | .iface _ d => uptoBulk d + 1
  | .map entries => uptoBulkEntries entries + 1
  | .held _ => 1
def uptoBulkAll {H : Type} : List (DataW H) → Nat
  | [] => 0
  | d :: r => uptoBulk d + uptoBulkAll r
def uptoBulkEntries {H : Type} : List (Lit × DataW H) → Nat
  | [] => 0
  | x :: r => uptoBulkEntry x + uptoBulkEntries r
def uptoBulkEntry {H : Type} : Lit × DataW H → Nat
  | (.string bytes, d) => bytes.length + uptoBulk d + 1
  | (_, d) => uptoBulk d + 1
 end
def uptoSmall : (H : Type) → List (DataW H) → Bool := fun _ ds => decide (uptoBulkAll ds ≤ 1048576)
def OpenSpec.upto (s : _root_.Go.ChangeSpec) : _root_.Go.OpenSpec := { _root_.Go.OpenSpec.ofChange s with cond := some uptoSmall }

/-- 'thimblelaw10.AuditLess', WHERE WHAT IT READS IS OF BULK AT MOST 1048576: true; the input reads as it did. -/
def auditLessUptoRow : OpenClaim := { program := "ytmnkaohhjhjciaa", sum := "4466fb0db401b714f3d74c841983a040ef389ca5f57414402412e3a139d98b22", func := "thimble/thimblelaw10.AuditLess", spec := "auditLess", inPlace := ["internal/bytealg.IndexByteString", "internal/bytealg.IndexString"], unfollowed := true, recurses := true, named := ["internal/bytealg.MaxLen"], plainKeys := false, apart := false, narrowed := true }
def AuditLessUptoSaid : Prop := auditLessUptoRow.holds Try.pinned (OpenSpec.upto auditLessSpec)

/-- 'thimblelaw10.AuditTree', WHERE WHAT IT READS IS OF BULK AT MOST 1048576: true; the input reads as it did. -/
def auditTreeUptoRow : OpenClaim := { program := "ytmnkaohhjhjciaa", sum := "4466fb0db401b714f3d74c841983a040ef389ca5f57414402412e3a139d98b22", func := "thimble/thimblelaw10.AuditTree", spec := "auditTree", inPlace := ["internal/bytealg.IndexByteString", "internal/bytealg.IndexString"], unfollowed := true, recurses := true, named := ["internal/bytealg.MaxLen"], plainKeys := false, apart := false, narrowed := true }
def AuditTreeUptoSaid : Prop := auditTreeUptoRow.holds Try.pinned (OpenSpec.upto auditTreeSpec)

/-- 'thimblelaw10.AuditReaches', WHERE WHAT IT READS IS OF BULK AT MOST 1048576: true; the input reads as it did. -/
def auditReachesUptoRow : OpenClaim := { program := "ytmnkaohhjhjciaa", sum := "4466fb0db401b714f3d74c841983a040ef389ca5f57414402412e3a139d98b22", func := "thimble/thimblelaw10.AuditReaches", spec := "auditReaches", inPlace := ["internal/bytealg.IndexByteString", "internal/bytealg.IndexString"], unfollowed := true, recurses := true, named := ["internal/bytealg.MaxLen"], plainKeys := false, apart := false, narrowed := true }
def AuditReachesUptoSaid : Prop := auditReachesUptoRow.holds Try.pinned (OpenSpec.upto auditReachesSpec)

/-- 'thimblelaw09.GraphTells', WHERE WHAT IT READS IS OF BULK AT MOST 1048576: true; the input reads as it did. -/
def graphTellsUptoRow : OpenClaim := { program := "ytmnkaohhjhjciaa", sum := "4466fb0db401b714f3d74c841983a040ef389ca5f57414402412e3a139d98b22", func := "thimble/thimblelaw09.GraphTells", spec := "graphTells", inPlace := ["internal/bytealg.IndexByteString", "internal/bytealg.IndexString"], unfollowed := true, recurses := true, named := ["internal/bytealg.MaxLen"], plainKeys := false, apart := false, narrowed := true }
def GraphTellsUptoSaid : Prop := graphTellsUptoRow.holds Try.pinned (OpenSpec.upto graphTellsSpec)

/-- 'thimblelaw09.GraphUnders', WHERE WHAT IT READS IS OF BULK AT MOST 1048576: true; the input reads as it did. -/
def graphUndersUptoRow : OpenClaim := { program := "ytmnkaohhjhjciaa", sum := "4466fb0db401b714f3d74c841983a040ef389ca5f57414402412e3a139d98b22", func := "thimble/thimblelaw09.GraphUnders", spec := "graphUnders", inPlace := ["internal/bytealg.IndexByteString", "internal/bytealg.IndexString"], unfollowed := true, recurses := true, named := ["internal/bytealg.MaxLen"], plainKeys := false, apart := false, narrowed := true }
def GraphUndersUptoSaid : Prop := graphUndersUptoRow.holds Try.pinned (OpenSpec.upto graphUndersSpec)

/-- 'thimblelaw09.GraphCounts', WHERE WHAT IT READS IS OF BULK AT MOST 1048576: true; the input reads as it did. -/
def graphCountsUptoRow : OpenClaim := { program := "ytmnkaohhjhjciaa", sum := "4466fb0db401b714f3d74c841983a040ef389ca5f57414402412e3a139d98b22", func := "thimble/thimblelaw09.GraphCounts", spec := "graphCounts", inPlace := ["internal/bytealg.IndexByteString", "internal/bytealg.IndexString"], unfollowed := true, recurses := true, named := ["internal/bytealg.MaxLen"], plainKeys := false, apart := false, narrowed := true }
def GraphCountsUptoSaid : Prop := graphCountsUptoRow.holds Try.pinned (OpenSpec.upto graphCountsSpec)

/-- 'thimblelaw09.GraphNothing', WHERE WHAT IT READS IS OF BULK AT MOST 1048576: true; the input reads as it did. -/
def graphNothingUptoRow : OpenClaim := { program := "ytmnkaohhjhjciaa", sum := "4466fb0db401b714f3d74c841983a040ef389ca5f57414402412e3a139d98b22", func := "thimble/thimblelaw09.GraphNothing", spec := "graphNothing", inPlace := ["internal/bytealg.IndexByteString", "internal/bytealg.IndexString", "maps.clone"], unfollowed := true, recurses := true, named := ["internal/bytealg.MaxLen"], plainKeys := false, apart := false, narrowed := true }
def GraphNothingUptoSaid : Prop := graphNothingUptoRow.holds Try.pinned (OpenSpec.upto graphNothingSpec)

/-- 'thimblelaw09.GraphFresh', WHERE WHAT IT READS IS OF BULK AT MOST 1048576: true; the input reads as it did. -/
def graphFreshUptoRow : OpenClaim := { program := "ytmnkaohhjhjciaa", sum := "4466fb0db401b714f3d74c841983a040ef389ca5f57414402412e3a139d98b22", func := "thimble/thimblelaw09.GraphFresh", spec := "graphFresh", inPlace := ["internal/bytealg.IndexByteString", "internal/bytealg.IndexString", "maps.clone"], unfollowed := true, recurses := true, named := ["internal/bytealg.MaxLen"], plainKeys := false, apart := false, narrowed := true }
def GraphFreshUptoSaid : Prop := graphFreshUptoRow.holds Try.pinned (OpenSpec.upto graphFreshSpec)

end Rows
end Go.Proofs.Ytmnkaohhjhjciaa
