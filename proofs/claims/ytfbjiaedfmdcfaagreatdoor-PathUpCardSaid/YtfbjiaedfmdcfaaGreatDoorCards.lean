/-
  DERIVED. GIVEN WITH THE SEED: THE CARDS: each row of YtfbjiaedfmdcfaaGreatDoorRows.lean that lists a variable, with what it lists TIED to the program's text (the seventh form; the later family's looks); each row that meets fmt, with fmt's text TOLD by the authors' own Lean function (tested against real Go, not proved from fmt's source: count such statements apart). THE CARD IS WHAT COUNTS. Prove the row's statement (the work); the ties are given (YtfbjiaedfmdcfaaGreatDoorTie.lean); close each card by the builder's one call (the guide's Derived/Test/ToyasCard.lean, 'card_holds'). Laid BY PROGRAM, IN A SANDBOX (cutbox-door.mjs). By AI agents, Wed Nov 11 2026. No macro, syntax, notation, axiom, sorry.
-/
import Derived.Test.YtfbjiaedfmdcfaaGreatDoorRows
import GoSem.ClaimSeven
namespace Go.Proofs.YtfbjiaedfmdcfaaGreatDoor
namespace Rows

/-- THE TIED CARD OF 'thimblelaw22.ExportText'. -/
def exportTextCard : Claim7 := { stood := { row := exportTextRow, standIns := [], harness := (true, "7034af5a604c9baceee26829aaa85f25aad02d13720952a0d3b7c628963fcaab"), looks := true }, kinds := [], alts := [], laidByText := true, laidKinds := [.data, .data, .data, .data, .pinned], laidTests := true, laidLooks := .later }
def ExportTextCardSaid : Prop := Claim7.holds Tryz.pinned (.plain (OpenSpec.ofChange exportTextSpec)) exportTextCard

/-- THE TIED CARD OF 'thimblelaw16.CallsNobody'. -/
def callsNobodyCard : Claim7 := { stood := { row := callsNobodyRow, standIns := [], harness := (true, "7034af5a604c9baceee26829aaa85f25aad02d13720952a0d3b7c628963fcaab"), looks := true }, kinds := [], alts := [], laidByText := true, laidKinds := [.data, .pinned], laidTests := true, laidLooks := .later }
def CallsNobodyCardSaid : Prop := Claim7.holds Tryz.pinned (.plain (OpenSpec.ofChange callsNobodySpec)) callsNobodyCard

/-- THE TIED CARD OF 'thimblelaw15.PathPoints'. -/
def pathPointsCard : Claim7 := { stood := { row := pathPointsRow, standIns := [], harness := (true, "7034af5a604c9baceee26829aaa85f25aad02d13720952a0d3b7c628963fcaab"), looks := true }, kinds := [], alts := [], laidByText := true, laidKinds := [.data, .pinned], laidTests := true, laidLooks := .later }
def PathPointsCardSaid : Prop := Claim7.holds Tryz.pinned (.plain (OpenSpec.ofChange pathPointsSpec)) pathPointsCard

/-- THE TIED CARD OF 'thimblelaw15.PathParts'. -/
def pathPartsCard : Claim7 := { stood := { row := pathPartsRow, standIns := [], harness := (true, "7034af5a604c9baceee26829aaa85f25aad02d13720952a0d3b7c628963fcaab"), looks := true }, kinds := [], alts := [], laidByText := true, laidKinds := [.data, .pinned], laidTests := true, laidLooks := .later }
def PathPartsCardSaid : Prop := Claim7.holds Tryz.pinned (.plain (OpenSpec.ofChange pathPartsSpec)) pathPartsCard

/-- THE TIED CARD OF 'thimblelaw15.PathNobody'. -/
def pathNobodyCard : Claim7 := { stood := { row := pathNobodyRow, standIns := [], harness := (true, "7034af5a604c9baceee26829aaa85f25aad02d13720952a0d3b7c628963fcaab"), looks := true }, kinds := [], alts := [], laidByText := true, laidKinds := [.data, .pinned], laidTests := true, laidLooks := .later }
def PathNobodyCardSaid : Prop := Claim7.holds Tryz.pinned (.plain (OpenSpec.ofChange pathNobodySpec)) pathNobodyCard

/-- THE TIED CARD OF 'thimblelaw15.PathHome'. -/
def pathHomeCard : Claim7 := { stood := { row := pathHomeRow, standIns := [], harness := (true, "7034af5a604c9baceee26829aaa85f25aad02d13720952a0d3b7c628963fcaab"), looks := true }, kinds := [], alts := [], laidByText := true, laidKinds := [.data, .pinned], laidTests := true, laidLooks := .later }
def PathHomeCardSaid : Prop := Claim7.holds Tryz.pinned (.plain (OpenSpec.ofChange pathHomeSpec)) pathHomeCard

/-- THE TIED CARD OF 'thimblelaw15.PathUp'. -/
def pathUpCard : Claim7 := { stood := { row := pathUpRow, standIns := [], harness := (true, "7034af5a604c9baceee26829aaa85f25aad02d13720952a0d3b7c628963fcaab"), looks := true }, kinds := [], alts := [], laidByText := true, laidKinds := [.data, .pinned], laidTests := true, laidLooks := .later }
def PathUpCardSaid : Prop := Claim7.holds Tryz.pinned (.plain (OpenSpec.ofChange pathUpSpec)) pathUpCard

/-- THE TIED CARD OF 'thimblelaw16.CallsThere'. -/
def callsThereCard : Claim7 := { stood := { row := callsThereRow, standIns := [], harness := (true, "7034af5a604c9baceee26829aaa85f25aad02d13720952a0d3b7c628963fcaab"), looks := true }, kinds := [], alts := [], laidByText := true, laidKinds := [.data, .pinned], laidTests := true, laidLooks := .later }
def CallsThereCardSaid : Prop := Claim7.holds Tryz.pinned (.plain (OpenSpec.ofChange callsThereSpec)) callsThereCard

/-- THE TIED CARD OF 'thimblelaw16.CallsTwice'. -/
def callsTwiceCard : Claim7 := { stood := { row := callsTwiceRow, standIns := [], harness := (true, "7034af5a604c9baceee26829aaa85f25aad02d13720952a0d3b7c628963fcaab"), looks := true }, kinds := [], alts := [], laidByText := true, laidKinds := [.data, .pinned], laidTests := true, laidLooks := .later }
def CallsTwiceCardSaid : Prop := Claim7.holds Tryz.pinned (.plain (OpenSpec.ofChange callsTwiceSpec)) callsTwiceCard

/-- THE TIED CARD OF 'thimblelaw16.CallsDo'. -/
def callsDoCard : Claim7 := { stood := { row := callsDoRow, standIns := [], harness := (true, "7034af5a604c9baceee26829aaa85f25aad02d13720952a0d3b7c628963fcaab"), looks := true }, kinds := [], alts := [], laidByText := true, laidKinds := [.data, .pinned], laidTests := true, laidLooks := .later }
def CallsDoCardSaid : Prop := Claim7.holds Tryz.pinned (.plain (OpenSpec.ofChange callsDoSpec)) callsDoCard

/-- THE TIED CARD OF 'thimblelaw16.CallsRead'. -/
def callsReadCard : Claim7 := { stood := { row := callsReadRow, standIns := [], harness := (true, "7034af5a604c9baceee26829aaa85f25aad02d13720952a0d3b7c628963fcaab"), looks := true }, kinds := [], alts := [], laidByText := true, laidKinds := [.data, .pinned], laidTests := true, laidLooks := .later }
def CallsReadCardSaid : Prop := Claim7.holds Tryz.pinned (.plain (OpenSpec.ofChange callsReadSpec)) callsReadCard

/-- THE TIED CARD OF 'thimblelaw16.CallsSame'. -/
def callsSameCard : Claim7 := { stood := { row := callsSameRow, standIns := [], harness := (true, "7034af5a604c9baceee26829aaa85f25aad02d13720952a0d3b7c628963fcaab"), looks := true }, kinds := [], alts := [], laidByText := true, laidKinds := [.data, .pinned], laidTests := true, laidLooks := .later }
def CallsSameCardSaid : Prop := Claim7.holds Tryz.pinned (.plain (OpenSpec.ofChange callsSameSpec)) callsSameCard

/-- THE TIED CARD OF 'thimblelaw22.ExportPaths'. -/
def exportPathsCard : Claim7 := { stood := { row := exportPathsRow, standIns := [], harness := (true, "7034af5a604c9baceee26829aaa85f25aad02d13720952a0d3b7c628963fcaab"), looks := true }, kinds := [], alts := [], laidByText := true, laidKinds := [.data, .data, .data, .data, .pinned], laidTests := true, laidLooks := .later }
def ExportPathsCardSaid : Prop := Claim7.holds Tryz.pinned (.plain (OpenSpec.ofChange exportPathsSpec)) exportPathsCard

/-- THE TIED CARD OF 'thimblelaw22.ExportCounts'. -/
def exportCountsCard : Claim7 := { stood := { row := exportCountsRow, standIns := [], harness := (true, "7034af5a604c9baceee26829aaa85f25aad02d13720952a0d3b7c628963fcaab"), looks := true }, kinds := [], alts := [], laidByText := true, laidKinds := [.data, .data, .data, .data, .pinned], laidTests := true, laidLooks := .later }
def ExportCountsCardSaid : Prop := Claim7.holds Tryz.pinned (.plain (OpenSpec.ofChange exportCountsSpec)) exportCountsCard

/-- THE SECOND FORM's CARD OF 'thimblelaw22.ExportText'. -/
def exportTextUptoCard : Claim7 := { stood := { row := exportTextUptoRow, standIns := [], harness := (true, "7034af5a604c9baceee26829aaa85f25aad02d13720952a0d3b7c628963fcaab"), looks := true }, kinds := [], alts := [], laidByText := true, laidKinds := [.data, .data, .data, .data, .pinned], laidTests := true, laidLooks := .later }
def ExportTextUptoCardSaid : Prop := Claim7.holds Tryz.pinned (.plain (OpenSpec.upto exportTextSpec)) exportTextUptoCard

/-- THE SECOND FORM's CARD OF 'thimblelaw16.CallsNobody'. -/
def callsNobodyUptoCard : Claim7 := { stood := { row := callsNobodyUptoRow, standIns := [], harness := (true, "7034af5a604c9baceee26829aaa85f25aad02d13720952a0d3b7c628963fcaab"), looks := true }, kinds := [], alts := [], laidByText := true, laidKinds := [.data, .pinned], laidTests := true, laidLooks := .later }
def CallsNobodyUptoCardSaid : Prop := Claim7.holds Tryz.pinned (.plain (OpenSpec.upto callsNobodySpec)) callsNobodyUptoCard

/-- THE SECOND FORM's CARD OF 'thimblelaw15.PathPoints'. -/
def pathPointsUptoCard : Claim7 := { stood := { row := pathPointsUptoRow, standIns := [], harness := (true, "7034af5a604c9baceee26829aaa85f25aad02d13720952a0d3b7c628963fcaab"), looks := true }, kinds := [], alts := [], laidByText := true, laidKinds := [.data, .pinned], laidTests := true, laidLooks := .later }
def PathPointsUptoCardSaid : Prop := Claim7.holds Tryz.pinned (.plain (OpenSpec.upto pathPointsSpec)) pathPointsUptoCard

/-- THE SECOND FORM's CARD OF 'thimblelaw15.PathParts'. -/
def pathPartsUptoCard : Claim7 := { stood := { row := pathPartsUptoRow, standIns := [], harness := (true, "7034af5a604c9baceee26829aaa85f25aad02d13720952a0d3b7c628963fcaab"), looks := true }, kinds := [], alts := [], laidByText := true, laidKinds := [.data, .pinned], laidTests := true, laidLooks := .later }
def PathPartsUptoCardSaid : Prop := Claim7.holds Tryz.pinned (.plain (OpenSpec.upto pathPartsSpec)) pathPartsUptoCard

/-- THE SECOND FORM's CARD OF 'thimblelaw15.PathNobody'. -/
def pathNobodyUptoCard : Claim7 := { stood := { row := pathNobodyUptoRow, standIns := [], harness := (true, "7034af5a604c9baceee26829aaa85f25aad02d13720952a0d3b7c628963fcaab"), looks := true }, kinds := [], alts := [], laidByText := true, laidKinds := [.data, .pinned], laidTests := true, laidLooks := .later }
def PathNobodyUptoCardSaid : Prop := Claim7.holds Tryz.pinned (.plain (OpenSpec.upto pathNobodySpec)) pathNobodyUptoCard

/-- THE SECOND FORM's CARD OF 'thimblelaw15.PathHome'. -/
def pathHomeUptoCard : Claim7 := { stood := { row := pathHomeUptoRow, standIns := [], harness := (true, "7034af5a604c9baceee26829aaa85f25aad02d13720952a0d3b7c628963fcaab"), looks := true }, kinds := [], alts := [], laidByText := true, laidKinds := [.data, .pinned], laidTests := true, laidLooks := .later }
def PathHomeUptoCardSaid : Prop := Claim7.holds Tryz.pinned (.plain (OpenSpec.upto pathHomeSpec)) pathHomeUptoCard

/-- THE SECOND FORM's CARD OF 'thimblelaw15.PathUp'. -/
def pathUpUptoCard : Claim7 := { stood := { row := pathUpUptoRow, standIns := [], harness := (true, "7034af5a604c9baceee26829aaa85f25aad02d13720952a0d3b7c628963fcaab"), looks := true }, kinds := [], alts := [], laidByText := true, laidKinds := [.data, .pinned], laidTests := true, laidLooks := .later }
def PathUpUptoCardSaid : Prop := Claim7.holds Tryz.pinned (.plain (OpenSpec.upto pathUpSpec)) pathUpUptoCard

/-- THE SECOND FORM's CARD OF 'thimblelaw16.CallsThere'. -/
def callsThereUptoCard : Claim7 := { stood := { row := callsThereUptoRow, standIns := [], harness := (true, "7034af5a604c9baceee26829aaa85f25aad02d13720952a0d3b7c628963fcaab"), looks := true }, kinds := [], alts := [], laidByText := true, laidKinds := [.data, .pinned], laidTests := true, laidLooks := .later }
def CallsThereUptoCardSaid : Prop := Claim7.holds Tryz.pinned (.plain (OpenSpec.upto callsThereSpec)) callsThereUptoCard

/-- THE SECOND FORM's CARD OF 'thimblelaw16.CallsTwice'. -/
def callsTwiceUptoCard : Claim7 := { stood := { row := callsTwiceUptoRow, standIns := [], harness := (true, "7034af5a604c9baceee26829aaa85f25aad02d13720952a0d3b7c628963fcaab"), looks := true }, kinds := [], alts := [], laidByText := true, laidKinds := [.data, .pinned], laidTests := true, laidLooks := .later }
def CallsTwiceUptoCardSaid : Prop := Claim7.holds Tryz.pinned (.plain (OpenSpec.upto callsTwiceSpec)) callsTwiceUptoCard

/-- THE SECOND FORM's CARD OF 'thimblelaw16.CallsDo'. -/
def callsDoUptoCard : Claim7 := { stood := { row := callsDoUptoRow, standIns := [], harness := (true, "7034af5a604c9baceee26829aaa85f25aad02d13720952a0d3b7c628963fcaab"), looks := true }, kinds := [], alts := [], laidByText := true, laidKinds := [.data, .pinned], laidTests := true, laidLooks := .later }
def CallsDoUptoCardSaid : Prop := Claim7.holds Tryz.pinned (.plain (OpenSpec.upto callsDoSpec)) callsDoUptoCard

/-- THE SECOND FORM's CARD OF 'thimblelaw16.CallsRead'. -/
def callsReadUptoCard : Claim7 := { stood := { row := callsReadUptoRow, standIns := [], harness := (true, "7034af5a604c9baceee26829aaa85f25aad02d13720952a0d3b7c628963fcaab"), looks := true }, kinds := [], alts := [], laidByText := true, laidKinds := [.data, .pinned], laidTests := true, laidLooks := .later }
def CallsReadUptoCardSaid : Prop := Claim7.holds Tryz.pinned (.plain (OpenSpec.upto callsReadSpec)) callsReadUptoCard

/-- THE SECOND FORM's CARD OF 'thimblelaw16.CallsSame'. -/
def callsSameUptoCard : Claim7 := { stood := { row := callsSameUptoRow, standIns := [], harness := (true, "7034af5a604c9baceee26829aaa85f25aad02d13720952a0d3b7c628963fcaab"), looks := true }, kinds := [], alts := [], laidByText := true, laidKinds := [.data, .pinned], laidTests := true, laidLooks := .later }
def CallsSameUptoCardSaid : Prop := Claim7.holds Tryz.pinned (.plain (OpenSpec.upto callsSameSpec)) callsSameUptoCard

/-- THE SECOND FORM's CARD OF 'thimblelaw22.ExportPaths'. -/
def exportPathsUptoCard : Claim7 := { stood := { row := exportPathsUptoRow, standIns := [], harness := (true, "7034af5a604c9baceee26829aaa85f25aad02d13720952a0d3b7c628963fcaab"), looks := true }, kinds := [], alts := [], laidByText := true, laidKinds := [.data, .data, .data, .data, .pinned], laidTests := true, laidLooks := .later }
def ExportPathsUptoCardSaid : Prop := Claim7.holds Tryz.pinned (.plain (OpenSpec.upto exportPathsSpec)) exportPathsUptoCard

/-- THE SECOND FORM's CARD OF 'thimblelaw22.ExportCounts'. -/
def exportCountsUptoCard : Claim7 := { stood := { row := exportCountsUptoRow, standIns := [], harness := (true, "7034af5a604c9baceee26829aaa85f25aad02d13720952a0d3b7c628963fcaab"), looks := true }, kinds := [], alts := [], laidByText := true, laidKinds := [.data, .data, .data, .data, .pinned], laidTests := true, laidLooks := .later }
def ExportCountsUptoCardSaid : Prop := Claim7.holds Tryz.pinned (.plain (OpenSpec.upto exportCountsSpec)) exportCountsUptoCard
end Rows
end Go.Proofs.YtfbjiaedfmdcfaaGreatDoor
