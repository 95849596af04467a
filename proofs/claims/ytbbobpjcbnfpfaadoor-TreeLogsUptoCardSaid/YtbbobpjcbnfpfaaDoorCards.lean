/-
  DERIVED. GIVEN WITH THE SEED: THE CARDS: each row of YtbbobpjcbnfpfaaDoorRows.lean that lists a variable, with what it lists TIED to the program's text (the seventh form; the later family's looks); each row that meets fmt, with fmt's text TOLD by the authors' own Lean function (tested against real Go, not proved from fmt's source: count such statements apart). THE CARD IS WHAT COUNTS. Prove the row's statement (the work); the ties are given (YtbbobpjcbnfpfaaDoorTie.lean); close each card by the builder's one call (the guide's Derived/Test/ToyasCard.lean, 'card_holds'). Laid BY PROGRAM, IN A SANDBOX (cutbox-door.mjs). By AI agents, Wed Nov 11 2026. No macro, syntax, notation, axiom, sorry.
-/
import Derived.Test.YtbbobpjcbnfpfaaDoorRows
import GoSem.ClaimSeven
namespace Go.Proofs.YtbbobpjcbnfpfaaDoor
namespace Rows

/-- THE TIED CARD OF 'causewaylaw04.TreeRoots'. -/
def treeRootsCard : Claim7 := { stood := { row := treeRootsRow, standIns := [], harness := (true, "1c1bf9af40f622f9fb1902860636d23e8983a9d337c74eaa3693d871f1474b61"), looks := false }, kinds := [], alts := [], laidByText := true, laidKinds := [.data, .data, .data], laidTests := true, laidLooks := .later }
def TreeRootsCardSaid : Prop := Claim7.holds Tryd.pinned (.plain (OpenSpec.ofChange treeRootsSpec)) treeRootsCard

/-- THE TIED CARD OF 'causewaylaw04.TreePaths'. -/
def treePathsCard : Claim7 := { stood := { row := treePathsRow, standIns := [], harness := (true, "1c1bf9af40f622f9fb1902860636d23e8983a9d337c74eaa3693d871f1474b61"), looks := false }, kinds := [], alts := [], laidByText := true, laidKinds := [.data, .data, .data], laidTests := true, laidLooks := .later }
def TreePathsCardSaid : Prop := Claim7.holds Tryd.pinned (.plain (OpenSpec.ofChange treePathsSpec)) treePathsCard

/-- THE TIED CARD OF 'causewaylaw04.TreeChecks'. -/
def treeChecksCard : Claim7 := { stood := { row := treeChecksRow, standIns := [], harness := (true, "1c1bf9af40f622f9fb1902860636d23e8983a9d337c74eaa3693d871f1474b61"), looks := false }, kinds := [], alts := [], laidByText := true, laidKinds := [.data, .data, .data], laidTests := true, laidLooks := .later }
def TreeChecksCardSaid : Prop := Claim7.holds Tryd.pinned (.plain (OpenSpec.ofChange treeChecksSpec)) treeChecksCard

/-- THE TIED CARD OF 'causewaylaw04.TreeOneLeaf'. -/
def treeOneLeafCard : Claim7 := { stood := { row := treeOneLeafRow, standIns := [], harness := (true, "1c1bf9af40f622f9fb1902860636d23e8983a9d337c74eaa3693d871f1474b61"), looks := false }, kinds := [], alts := [], laidByText := true, laidKinds := [.data, .data, .data], laidTests := true, laidLooks := .later }
def TreeOneLeafCardSaid : Prop := Claim7.holds Tryd.pinned (.plain (OpenSpec.ofChange treeOneLeafSpec)) treeOneLeafCard

/-- THE TIED CARD OF 'causewaylaw04.TreeBelow'. -/
def treeBelowCard : Claim7 := { stood := { row := treeBelowRow, standIns := [], harness := (true, "1c1bf9af40f622f9fb1902860636d23e8983a9d337c74eaa3693d871f1474b61"), looks := false }, kinds := [], alts := [], laidByText := true, laidKinds := [.data], laidTests := true, laidLooks := .later }
def TreeBelowCardSaid : Prop := Claim7.holds Tryd.pinned (.plain (OpenSpec.ofChange treeBelowSpec)) treeBelowCard

/-- THE TIED CARD OF 'causewaylaw04.TreeGrowths'. -/
def treeGrowthsCard : Claim7 := { stood := { row := treeGrowthsRow, standIns := [], harness := (true, "1c1bf9af40f622f9fb1902860636d23e8983a9d337c74eaa3693d871f1474b61"), looks := false }, kinds := [], alts := [], laidByText := true, laidKinds := [.data, .data, .data], laidTests := true, laidLooks := .later }
def TreeGrowthsCardSaid : Prop := Claim7.holds Tryd.pinned (.plain (OpenSpec.ofChange treeGrowthsSpec)) treeGrowthsCard

/-- THE TIED CARD OF 'causewaylaw04.TreeGrews'. -/
def treeGrewsCard : Claim7 := { stood := { row := treeGrewsRow, standIns := [], harness := (true, "1c1bf9af40f622f9fb1902860636d23e8983a9d337c74eaa3693d871f1474b61"), looks := false }, kinds := [], alts := [], laidByText := true, laidKinds := [.data, .data, .data], laidTests := true, laidLooks := .later }
def TreeGrewsCardSaid : Prop := Claim7.holds Tryd.pinned (.plain (OpenSpec.ofChange treeGrewsSpec)) treeGrewsCard

/-- THE TIED CARD OF 'causewaylaw04.TreeOnePast'. -/
def treeOnePastCard : Claim7 := { stood := { row := treeOnePastRow, standIns := [], harness := (true, "1c1bf9af40f622f9fb1902860636d23e8983a9d337c74eaa3693d871f1474b61"), looks := false }, kinds := [], alts := [], laidByText := true, laidKinds := [.data, .data, .data], laidTests := true, laidLooks := .later }
def TreeOnePastCardSaid : Prop := Claim7.holds Tryd.pinned (.plain (OpenSpec.ofChange treeOnePastSpec)) treeOnePastCard

/-- THE TIED CARD OF 'causewaylaw04.TreeLogs'. -/
def treeLogsCard : Claim7 := { stood := { row := treeLogsRow, standIns := [], harness := (true, "1c1bf9af40f622f9fb1902860636d23e8983a9d337c74eaa3693d871f1474b61"), looks := false }, kinds := [], alts := [], laidByText := true, laidKinds := [.data, .data, .data, .data, .data], laidTests := true, laidLooks := .later }
def TreeLogsCardSaid : Prop := Claim7.holds Tryd.pinned (.plain (OpenSpec.ofChange treeLogsSpec)) treeLogsCard

/-- THE TIED CARD OF 'causewaylaw04.TreeProves'. -/
def treeProvesCard : Claim7 := { stood := { row := treeProvesRow, standIns := [], harness := (true, "1c1bf9af40f622f9fb1902860636d23e8983a9d337c74eaa3693d871f1474b61"), looks := false }, kinds := [], alts := [], laidByText := true, laidKinds := [.data, .data, .data], laidTests := true, laidLooks := .later }
def TreeProvesCardSaid : Prop := Claim7.holds Tryd.pinned (.plain (OpenSpec.ofChange treeProvesSpec)) treeProvesCard

/-- THE SECOND FORM's CARD OF 'causewaylaw04.TreeRoots'. -/
def treeRootsUptoCard : Claim7 := { stood := { row := treeRootsUptoRow, standIns := [], harness := (true, "1c1bf9af40f622f9fb1902860636d23e8983a9d337c74eaa3693d871f1474b61"), looks := false }, kinds := [], alts := [], laidByText := true, laidKinds := [.data, .data, .data], laidTests := true, laidLooks := .later }
def TreeRootsUptoCardSaid : Prop := Claim7.holds Tryd.pinned (.plain (OpenSpec.upto treeRootsSpec)) treeRootsUptoCard

/-- THE SECOND FORM's CARD OF 'causewaylaw04.TreePaths'. -/
def treePathsUptoCard : Claim7 := { stood := { row := treePathsUptoRow, standIns := [], harness := (true, "1c1bf9af40f622f9fb1902860636d23e8983a9d337c74eaa3693d871f1474b61"), looks := false }, kinds := [], alts := [], laidByText := true, laidKinds := [.data, .data, .data], laidTests := true, laidLooks := .later }
def TreePathsUptoCardSaid : Prop := Claim7.holds Tryd.pinned (.plain (OpenSpec.upto treePathsSpec)) treePathsUptoCard

/-- THE SECOND FORM's CARD OF 'causewaylaw04.TreeChecks'. -/
def treeChecksUptoCard : Claim7 := { stood := { row := treeChecksUptoRow, standIns := [], harness := (true, "1c1bf9af40f622f9fb1902860636d23e8983a9d337c74eaa3693d871f1474b61"), looks := false }, kinds := [], alts := [], laidByText := true, laidKinds := [.data, .data, .data], laidTests := true, laidLooks := .later }
def TreeChecksUptoCardSaid : Prop := Claim7.holds Tryd.pinned (.plain (OpenSpec.upto treeChecksSpec)) treeChecksUptoCard

/-- THE SECOND FORM's CARD OF 'causewaylaw04.TreeOneLeaf'. -/
def treeOneLeafUptoCard : Claim7 := { stood := { row := treeOneLeafUptoRow, standIns := [], harness := (true, "1c1bf9af40f622f9fb1902860636d23e8983a9d337c74eaa3693d871f1474b61"), looks := false }, kinds := [], alts := [], laidByText := true, laidKinds := [.data, .data, .data], laidTests := true, laidLooks := .later }
def TreeOneLeafUptoCardSaid : Prop := Claim7.holds Tryd.pinned (.plain (OpenSpec.upto treeOneLeafSpec)) treeOneLeafUptoCard

/-- THE SECOND FORM's CARD OF 'causewaylaw04.TreeBelow'. -/
def treeBelowUptoCard : Claim7 := { stood := { row := treeBelowUptoRow, standIns := [], harness := (true, "1c1bf9af40f622f9fb1902860636d23e8983a9d337c74eaa3693d871f1474b61"), looks := false }, kinds := [], alts := [], laidByText := true, laidKinds := [.data], laidTests := true, laidLooks := .later }
def TreeBelowUptoCardSaid : Prop := Claim7.holds Tryd.pinned (.plain (OpenSpec.upto treeBelowSpec)) treeBelowUptoCard

/-- THE SECOND FORM's CARD OF 'causewaylaw04.TreeGrowths'. -/
def treeGrowthsUptoCard : Claim7 := { stood := { row := treeGrowthsUptoRow, standIns := [], harness := (true, "1c1bf9af40f622f9fb1902860636d23e8983a9d337c74eaa3693d871f1474b61"), looks := false }, kinds := [], alts := [], laidByText := true, laidKinds := [.data, .data, .data], laidTests := true, laidLooks := .later }
def TreeGrowthsUptoCardSaid : Prop := Claim7.holds Tryd.pinned (.plain (OpenSpec.upto treeGrowthsSpec)) treeGrowthsUptoCard

/-- THE SECOND FORM's CARD OF 'causewaylaw04.TreeGrews'. -/
def treeGrewsUptoCard : Claim7 := { stood := { row := treeGrewsUptoRow, standIns := [], harness := (true, "1c1bf9af40f622f9fb1902860636d23e8983a9d337c74eaa3693d871f1474b61"), looks := false }, kinds := [], alts := [], laidByText := true, laidKinds := [.data, .data, .data], laidTests := true, laidLooks := .later }
def TreeGrewsUptoCardSaid : Prop := Claim7.holds Tryd.pinned (.plain (OpenSpec.upto treeGrewsSpec)) treeGrewsUptoCard

/-- THE SECOND FORM's CARD OF 'causewaylaw04.TreeOnePast'. -/
def treeOnePastUptoCard : Claim7 := { stood := { row := treeOnePastUptoRow, standIns := [], harness := (true, "1c1bf9af40f622f9fb1902860636d23e8983a9d337c74eaa3693d871f1474b61"), looks := false }, kinds := [], alts := [], laidByText := true, laidKinds := [.data, .data, .data], laidTests := true, laidLooks := .later }
def TreeOnePastUptoCardSaid : Prop := Claim7.holds Tryd.pinned (.plain (OpenSpec.upto treeOnePastSpec)) treeOnePastUptoCard

/-- THE SECOND FORM's CARD OF 'causewaylaw04.TreeLogs'. -/
def treeLogsUptoCard : Claim7 := { stood := { row := treeLogsUptoRow, standIns := [], harness := (true, "1c1bf9af40f622f9fb1902860636d23e8983a9d337c74eaa3693d871f1474b61"), looks := false }, kinds := [], alts := [], laidByText := true, laidKinds := [.data, .data, .data, .data, .data], laidTests := true, laidLooks := .later }
def TreeLogsUptoCardSaid : Prop := Claim7.holds Tryd.pinned (.plain (OpenSpec.upto treeLogsSpec)) treeLogsUptoCard

/-- THE SECOND FORM's CARD OF 'causewaylaw04.TreeProves'. -/
def treeProvesUptoCard : Claim7 := { stood := { row := treeProvesUptoRow, standIns := [], harness := (true, "1c1bf9af40f622f9fb1902860636d23e8983a9d337c74eaa3693d871f1474b61"), looks := false }, kinds := [], alts := [], laidByText := true, laidKinds := [.data, .data, .data], laidTests := true, laidLooks := .later }
def TreeProvesUptoCardSaid : Prop := Claim7.holds Tryd.pinned (.plain (OpenSpec.upto treeProvesSpec)) treeProvesUptoCard
end Rows
end Go.Proofs.YtbbobpjcbnfpfaaDoor
