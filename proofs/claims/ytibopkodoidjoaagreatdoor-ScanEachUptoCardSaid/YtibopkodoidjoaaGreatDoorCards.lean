/-
  DERIVED. GIVEN WITH THE SEED: THE CARDS: each row of YtibopkodoidjoaaGreatDoorRows.lean that lists a variable, with what it lists TIED to the program's text (the seventh form; the later family's looks); each row that meets fmt, with fmt's text TOLD by the authors' own Lean function (tested against real Go, not proved from fmt's source: count such statements apart). THE CARD IS WHAT COUNTS. Prove the row's statement (the work); the ties are given (YtibopkodoidjoaaGreatDoorTie.lean); close each card by the builder's one call (the guide's Derived/Test/ToyasCard.lean, 'card_holds'). Laid BY PROGRAM, IN A SANDBOX (cutbox-door.mjs). By AI agents, Wed Nov 11 2026. No macro, syntax, notation, axiom, sorry.
-/
import Derived.Test.YtibopkodoidjoaaGreatDoorRows
import GoSem.ClaimSeven
namespace Go.Proofs.YtibopkodoidjoaaGreatDoor
namespace Rows

/-- THE TIED CARD OF 'vellumlaw18.TreeParses'. -/
def treeParsesCard : Claim7 := { stood := { row := treeParsesRow, standIns := [], harness := (true, "5a4c51ab3a02e3f6c584dd3738d87306dd78b433a253fa66b52b422dea7a01f3"), looks := true }, kinds := [], alts := [], laidByText := true, laidKinds := [.data, .handle, .sentinel, .sentinel, .sentinel, .sentinel, .sentinel, .sentinel, .sentinel, .sentinel, .sentinel, .sentinel, .sentinel, .sentinel, .sentinel, .sentinel, .sentinel, .sentinel, .sentinel, .sentinel, .sentinel, .pinned], laidTests := true, laidLooks := .later }
def TreeParsesCardSaid : Prop := Claim7.holds Tryz.pinned (.plain (OpenSpec.ofChange treeParsesSpec)) treeParsesCard

/-- THE TIED CARD OF 'vellumlaw18.TreeTells'. -/
def treeTellsCard : Claim7 := { stood := { row := treeTellsRow, standIns := [], harness := (true, "5a4c51ab3a02e3f6c584dd3738d87306dd78b433a253fa66b52b422dea7a01f3"), looks := true }, kinds := [], alts := [], laidByText := true, laidKinds := [.data, .handle, .sentinel, .sentinel, .sentinel, .sentinel, .sentinel, .sentinel, .sentinel, .sentinel, .sentinel, .sentinel, .sentinel, .sentinel, .sentinel, .sentinel, .sentinel, .sentinel, .sentinel, .sentinel, .sentinel, .pinned], laidTests := true, laidLooks := .later }
def TreeTellsCardSaid : Prop := Claim7.holds Tryz.pinned (.plain (OpenSpec.ofChange treeTellsSpec)) treeTellsCard

/-- THE TIED CARD OF 'vellumlaw17.ScanEach'. -/
def scanEachCard : Claim7 := { stood := { row := scanEachRow, standIns := [], harness := (true, "5a4c51ab3a02e3f6c584dd3738d87306dd78b433a253fa66b52b422dea7a01f3"), looks := true }, kinds := [], alts := [], laidByText := true, laidKinds := [.data, .data, .data, .data, .sentinel, .sentinel, .sentinel, .sentinel, .sentinel, .sentinel, .sentinel, .sentinel, .sentinel, .sentinel, .sentinel, .sentinel, .sentinel, .sentinel, .sentinel, .sentinel, .sentinel, .sentinel, .sentinel, .sentinel, .sentinel, .pinned], laidTests := true, laidLooks := .later }
def ScanEachCardSaid : Prop := Claim7.holds Tryz.pinned (.plain (OpenSpec.ofChange scanEachSpec)) scanEachCard

/-- THE TIED CARD OF 'vellumlaw18.TreeBack'. -/
def treeBackCard : Claim7 := { stood := { row := treeBackRow, standIns := [], harness := (true, "5a4c51ab3a02e3f6c584dd3738d87306dd78b433a253fa66b52b422dea7a01f3"), looks := true }, kinds := [], alts := [], laidByText := true, laidKinds := [.data, .data, .data, .data, .sentinel, .sentinel, .sentinel, .sentinel, .sentinel, .sentinel, .sentinel, .sentinel, .sentinel, .sentinel, .sentinel, .sentinel, .sentinel, .sentinel, .sentinel, .sentinel, .sentinel, .sentinel, .sentinel, .sentinel, .sentinel, .pinned], laidTests := true, laidLooks := .later }
def TreeBackCardSaid : Prop := Claim7.holds Tryz.pinned (.plain (OpenSpec.ofChange treeBackSpec)) treeBackCard

/-- THE TIED CARD OF 'vellumlaw18.TreeFinds'. -/
def treeFindsCard : Claim7 := { stood := { row := treeFindsRow, standIns := [], harness := (true, "5a4c51ab3a02e3f6c584dd3738d87306dd78b433a253fa66b52b422dea7a01f3"), looks := true }, kinds := [], alts := [], laidByText := true, laidKinds := [.data, .data, .data, .data, .handle, .sentinel, .sentinel, .sentinel, .sentinel, .sentinel, .sentinel, .sentinel, .sentinel, .sentinel, .sentinel, .sentinel, .sentinel, .sentinel, .sentinel, .sentinel, .sentinel, .sentinel, .sentinel, .sentinel, .sentinel, .sentinel, .pinned], laidTests := true, laidLooks := .later }
def TreeFindsCardSaid : Prop := Claim7.holds Tryz.pinned (.plain (OpenSpec.ofChange treeFindsSpec)) treeFindsCard

/-- THE SECOND FORM's CARD OF 'vellumlaw18.TreeParses'. -/
def treeParsesUptoCard : Claim7 := { stood := { row := treeParsesUptoRow, standIns := [], harness := (true, "5a4c51ab3a02e3f6c584dd3738d87306dd78b433a253fa66b52b422dea7a01f3"), looks := true }, kinds := [], alts := [], laidByText := true, laidKinds := [.data, .handle, .sentinel, .sentinel, .sentinel, .sentinel, .sentinel, .sentinel, .sentinel, .sentinel, .sentinel, .sentinel, .sentinel, .sentinel, .sentinel, .sentinel, .sentinel, .sentinel, .sentinel, .sentinel, .sentinel, .pinned], laidTests := true, laidLooks := .later }
def TreeParsesUptoCardSaid : Prop := Claim7.holds Tryz.pinned (.plain (OpenSpec.upto treeParsesSpec)) treeParsesUptoCard

/-- THE SECOND FORM's CARD OF 'vellumlaw18.TreeTells'. -/
def treeTellsUptoCard : Claim7 := { stood := { row := treeTellsUptoRow, standIns := [], harness := (true, "5a4c51ab3a02e3f6c584dd3738d87306dd78b433a253fa66b52b422dea7a01f3"), looks := true }, kinds := [], alts := [], laidByText := true, laidKinds := [.data, .handle, .sentinel, .sentinel, .sentinel, .sentinel, .sentinel, .sentinel, .sentinel, .sentinel, .sentinel, .sentinel, .sentinel, .sentinel, .sentinel, .sentinel, .sentinel, .sentinel, .sentinel, .sentinel, .sentinel, .pinned], laidTests := true, laidLooks := .later }
def TreeTellsUptoCardSaid : Prop := Claim7.holds Tryz.pinned (.plain (OpenSpec.upto treeTellsSpec)) treeTellsUptoCard

/-- THE SECOND FORM's CARD OF 'vellumlaw17.ScanEach'. -/
def scanEachUptoCard : Claim7 := { stood := { row := scanEachUptoRow, standIns := [], harness := (true, "5a4c51ab3a02e3f6c584dd3738d87306dd78b433a253fa66b52b422dea7a01f3"), looks := true }, kinds := [], alts := [], laidByText := true, laidKinds := [.data, .data, .data, .data, .sentinel, .sentinel, .sentinel, .sentinel, .sentinel, .sentinel, .sentinel, .sentinel, .sentinel, .sentinel, .sentinel, .sentinel, .sentinel, .sentinel, .sentinel, .sentinel, .sentinel, .sentinel, .sentinel, .sentinel, .sentinel, .pinned], laidTests := true, laidLooks := .later }
def ScanEachUptoCardSaid : Prop := Claim7.holds Tryz.pinned (.plain (OpenSpec.upto scanEachSpec)) scanEachUptoCard

/-- THE SECOND FORM's CARD OF 'vellumlaw18.TreeBack'. -/
def treeBackUptoCard : Claim7 := { stood := { row := treeBackUptoRow, standIns := [], harness := (true, "5a4c51ab3a02e3f6c584dd3738d87306dd78b433a253fa66b52b422dea7a01f3"), looks := true }, kinds := [], alts := [], laidByText := true, laidKinds := [.data, .data, .data, .data, .sentinel, .sentinel, .sentinel, .sentinel, .sentinel, .sentinel, .sentinel, .sentinel, .sentinel, .sentinel, .sentinel, .sentinel, .sentinel, .sentinel, .sentinel, .sentinel, .sentinel, .sentinel, .sentinel, .sentinel, .sentinel, .pinned], laidTests := true, laidLooks := .later }
def TreeBackUptoCardSaid : Prop := Claim7.holds Tryz.pinned (.plain (OpenSpec.upto treeBackSpec)) treeBackUptoCard

/-- THE SECOND FORM's CARD OF 'vellumlaw18.TreeFinds'. -/
def treeFindsUptoCard : Claim7 := { stood := { row := treeFindsUptoRow, standIns := [], harness := (true, "5a4c51ab3a02e3f6c584dd3738d87306dd78b433a253fa66b52b422dea7a01f3"), looks := true }, kinds := [], alts := [], laidByText := true, laidKinds := [.data, .data, .data, .data, .handle, .sentinel, .sentinel, .sentinel, .sentinel, .sentinel, .sentinel, .sentinel, .sentinel, .sentinel, .sentinel, .sentinel, .sentinel, .sentinel, .sentinel, .sentinel, .sentinel, .sentinel, .sentinel, .sentinel, .sentinel, .sentinel, .pinned], laidTests := true, laidLooks := .later }
def TreeFindsUptoCardSaid : Prop := Claim7.holds Tryz.pinned (.plain (OpenSpec.upto treeFindsSpec)) treeFindsUptoCard
end Rows
end Go.Proofs.YtibopkodoidjoaaGreatDoor
