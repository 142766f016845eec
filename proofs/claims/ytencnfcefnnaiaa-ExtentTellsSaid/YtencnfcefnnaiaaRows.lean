/-
  No cell of these rows narrows 'for every input' (looked for: loops, veiled, ifaces, maps, wideKeys, modest, calm, conditions, laid).
  DERIVED. THE GIVEN ROWS OF THIS SEAT. 4 by the template 'for every input the law returns true; each argument reads behind the call as it read before'; 0 by the template 'total and deterministic' (their statements: YtencnfcefnnaiaaTotals.lean).
  GIVEN WITH THE SEED: the statements are not yours to turn. If you find one false, say at which input.
  Laid BY PROGRAM, IN A SANDBOX (cutbox-rows.mjs): the forced cells as the released guide's own fill.sh prints them over the translation 20c06586407477ed… (all of the seat's roots in one cut). By AI agents, Wed Nov 11 2026. No macro, syntax, notation, axiom, sorry.
-/
import Derived.Test.YtencnfcefnnaiaaChecked
import GoSem.Claim
import GoSem.ClaimJoined
import GoSem.ClaimMapViews
import Derived.JoinedTies
import Derived.KernelRfl
namespace Go.Proofs.Ytencnfcefnnaiaa
/- THE CELL 'sum', in the pinned program and in every row, IS THE sha256 OF THE DUMP (.gsa) THAT YtencnfcefnnaiaaProg.lean LOADS. Nothing in Lean hashes anything: it is a label: what it is worth is what the hold of that sum in a sandbox is worth. -/
noncomputable def Try.pinned : Pinned := { name := "ytencnfcefnnaiaa", sum := "20c06586407477ed7afbfaeb39ce38e60277f351d07616feb57f5aab4b933e94", checked := Try.checked }
namespace Rows
def none {H : Type} : Left H := { results := [], args := [] }

/-- 'thimblelaw08.ExtentKeeps': WHATEVER THE INPUT: true; the input reads as it did. -/
def extentKeepsSpec : ChangeSpec := { name := "extentKeeps", fn := fun _ => fun
  | [d1, d2, d3, d4] => { results := [.lit (.bool true)], args := [d1, d2, d3, d4] }
  | _ => none }
def extentKeepsRow : OpenClaim := { program := "ytencnfcefnnaiaa", sum := "20c06586407477ed7afbfaeb39ce38e60277f351d07616feb57f5aab4b933e94", func := "thimble/thimblelaw08.ExtentKeeps", spec := "extentKeeps", apart := false }
def ExtentKeepsSaid : Prop := extentKeepsRow.holds Try.pinned (OpenSpec.ofChange extentKeepsSpec)

/-- ITS FALSE NEIGHBOUR: 'it returns false'. Refute it at one input. -/
def extentKeepsWrong : ChangeSpec := { name := "extentKeeps", fn := fun _ => fun
  | [d1, d2, d3, d4] => { results := [.lit (.bool false)], args := [d1, d2, d3, d4] }
  | _ => none }
def ExtentKeepsWrongFalsely : Prop := extentKeepsRow.holds Try.pinned (OpenSpec.ofChange extentKeepsWrong)

/-- 'thimblelaw08.ExtentApart': WHATEVER THE INPUT: true; the input reads as it did. -/
def extentApartSpec : ChangeSpec := { name := "extentApart", fn := fun _ => fun
  | [d1, d2, d3, d4, d5] => { results := [.lit (.bool true)], args := [d1, d2, d3, d4, d5] }
  | _ => none }
def extentApartRow : OpenClaim := { program := "ytencnfcefnnaiaa", sum := "20c06586407477ed7afbfaeb39ce38e60277f351d07616feb57f5aab4b933e94", func := "thimble/thimblelaw08.ExtentApart", spec := "extentApart", apart := false }
def ExtentApartSaid : Prop := extentApartRow.holds Try.pinned (OpenSpec.ofChange extentApartSpec)

/-- ITS FALSE NEIGHBOUR: 'it returns false'. Refute it at one input. -/
def extentApartWrong : ChangeSpec := { name := "extentApart", fn := fun _ => fun
  | [d1, d2, d3, d4, d5] => { results := [.lit (.bool false)], args := [d1, d2, d3, d4, d5] }
  | _ => none }
def ExtentApartWrongFalsely : Prop := extentApartRow.holds Try.pinned (OpenSpec.ofChange extentApartWrong)

/-- 'thimblelaw08.ExtentTells': WHATEVER THE INPUT: true; the input reads as it did. -/
def extentTellsSpec : ChangeSpec := { name := "extentTells", fn := fun _ => fun
  | [d1, d2, d3, d4] => { results := [.lit (.bool true)], args := [d1, d2, d3, d4] }
  | _ => none }
def extentTellsRow : OpenClaim := { program := "ytencnfcefnnaiaa", sum := "20c06586407477ed7afbfaeb39ce38e60277f351d07616feb57f5aab4b933e94", func := "thimble/thimblelaw08.ExtentTells", spec := "extentTells", apart := false }
def ExtentTellsSaid : Prop := extentTellsRow.holds Try.pinned (OpenSpec.ofChange extentTellsSpec)

/-- ITS FALSE NEIGHBOUR: 'it returns false'. Refute it at one input. -/
def extentTellsWrong : ChangeSpec := { name := "extentTells", fn := fun _ => fun
  | [d1, d2, d3, d4] => { results := [.lit (.bool false)], args := [d1, d2, d3, d4] }
  | _ => none }
def ExtentTellsWrongFalsely : Prop := extentTellsRow.holds Try.pinned (OpenSpec.ofChange extentTellsWrong)

/-- 'thimblelaw08.ExtentCuts': WHATEVER THE INPUT: true; the input reads as it did. -/
def extentCutsSpec : ChangeSpec := { name := "extentCuts", fn := fun _ => fun
  | [d1, d2, d3, d4] => { results := [.lit (.bool true)], args := [d1, d2, d3, d4] }
  | _ => none }
def extentCutsRow : OpenClaim := { program := "ytencnfcefnnaiaa", sum := "20c06586407477ed7afbfaeb39ce38e60277f351d07616feb57f5aab4b933e94", func := "thimble/thimblelaw08.ExtentCuts", spec := "extentCuts", apart := false }
def ExtentCutsSaid : Prop := extentCutsRow.holds Try.pinned (OpenSpec.ofChange extentCutsSpec)

/-- ITS FALSE NEIGHBOUR: 'it returns false'. Refute it at one input. -/
def extentCutsWrong : ChangeSpec := { name := "extentCuts", fn := fun _ => fun
  | [d1, d2, d3, d4] => { results := [.lit (.bool false)], args := [d1, d2, d3, d4] }
  | _ => none }
def ExtentCutsWrongFalsely : Prop := extentCutsRow.holds Try.pinned (OpenSpec.ofChange extentCutsWrong)

/- THE SECOND FORM. 'bulk': how many values and letters a reading holds, each counted each time it is reached (what is shared counts as often as it is met; a slice's spare places count too). A statement '..UptoSaid' is the law's where the arguments, and the package variables that the reading takes, are together of bulk at most 1048576: NARROWER than '..Said'. Prove '..Said' where nothing that the law and all that it calls make is longer than what came in: it says more and counts as full. Else prove '..UptoSaid'. A law counts once. -/
mutual
def uptoBulk {H : Type} : DataW H → Nat
  | .lit (.string bytes) => bytes.length + 1
  | .lit _ => 1
  | .nil => 1
  | .ptr d => uptoBulk d + 1
  | .slice elems spare => uptoBulkAll elems + uptoBulkAll spare + 1
  | .agg parts => uptoBulkAll parts + 1
  | .iface _ d => uptoBulk d + 1
  | .map entries => uptoBulkEntries entries + 1
  | .held _ => 1
def uptoBulkAll {H : Type} : List (DataW H) → Nat
  | [] => 0
  | d :: r => uptoBulk d + uptoBulkAll r
def uptoBulkEntries {H : Type} : List (Lit × DataW H) → Nat
  | [] => 0
  | x :: r => uptoBulkEntry x + uptoBulkEntries r
def uptoBulkEntry {H : Type} : Lit × DataW H → Nat
  | (.string bytes, d) => bytes.length + uptoBulk d + 1
  | (_, d) => uptoBulk d + 1
 end
def uptoSmall : (H : Type) → List (DataW H) → Bool := fun _ ds => decide (uptoBulkAll ds ≤ 1048576)
def OpenSpec.upto (s : _root_.Go.ChangeSpec) : _root_.Go.OpenSpec := { _root_.Go.OpenSpec.ofChange s with cond := some uptoSmall }

/-- 'thimblelaw08.ExtentKeeps', WHERE WHAT IT READS IS OF BULK AT MOST 1048576: true; the input reads as it did. -/
def extentKeepsUptoRow : OpenClaim := { program := "ytencnfcefnnaiaa", sum := "20c06586407477ed7afbfaeb39ce38e60277f351d07616feb57f5aab4b933e94", func := "thimble/thimblelaw08.ExtentKeeps", spec := "extentKeeps", apart := false, narrowed := true }
def ExtentKeepsUptoSaid : Prop := extentKeepsUptoRow.holds Try.pinned (OpenSpec.upto extentKeepsSpec)

/-- 'thimblelaw08.ExtentApart', WHERE WHAT IT READS IS OF BULK AT MOST 1048576: true; the input reads as it did. -/
def extentApartUptoRow : OpenClaim := { program := "ytencnfcefnnaiaa", sum := "20c06586407477ed7afbfaeb39ce38e60277f351d07616feb57f5aab4b933e94", func := "thimble/thimblelaw08.ExtentApart", spec := "extentApart", apart := false, narrowed := true }
def ExtentApartUptoSaid : Prop := extentApartUptoRow.holds Try.pinned (OpenSpec.upto extentApartSpec)

/-- 'thimblelaw08.ExtentTells', WHERE WHAT IT READS IS OF BULK AT MOST 1048576: true; the input reads as it did. -/
def extentTellsUptoRow : OpenClaim := { program := "ytencnfcefnnaiaa", sum := "20c06586407477ed7afbfaeb39ce38e60277f351d07616feb57f5aab4b933e94", func := "thimble/thimblelaw08.ExtentTells", spec := "extentTells", apart := false, narrowed := true }
def ExtentTellsUptoSaid : Prop := extentTellsUptoRow.holds Try.pinned (OpenSpec.upto extentTellsSpec)

/-- 'thimblelaw08.ExtentCuts', WHERE WHAT IT READS IS OF BULK AT MOST 1048576: true; the input reads as it did. -/
def extentCutsUptoRow : OpenClaim := { program := "ytencnfcefnnaiaa", sum := "20c06586407477ed7afbfaeb39ce38e60277f351d07616feb57f5aab4b933e94", func := "thimble/thimblelaw08.ExtentCuts", spec := "extentCuts", apart := false, narrowed := true }
def ExtentCutsUptoSaid : Prop := extentCutsUptoRow.holds Try.pinned (OpenSpec.upto extentCutsSpec)

end Rows
end Go.Proofs.Ytencnfcefnnaiaa
