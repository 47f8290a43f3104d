/-
  DERIVED. GIVEN WITH THE SEED: THE CARDS: each row of YtfdhklpabhhjjaaDoorRows.lean that lists a variable, with what it lists TIED to the program's text (the seventh form; the later family's looks); each row that meets fmt, with fmt's text TOLD by the authors' own Lean function (tested against real Go, not proved from fmt's source: count such statements apart). THE CARD IS WHAT COUNTS. Prove the row's statement (the work); the ties are given (YtfdhklpabhhjjaaDoorTie.lean); close each card by the builder's one call (the guide's Derived/Test/ToyasCard.lean, 'card_holds'). Laid BY PROGRAM, IN A SANDBOX (cutbox-door.mjs). By AI agents, Wed Nov 11 2026. No macro, syntax, notation, axiom, sorry.
-/
import Derived.Test.YtfdhklpabhhjjaaDoorRows
import GoSem.ClaimSeven
namespace Go.Proofs.YtfdhklpabhhjjaaDoor
namespace Rows

/-- THE TIED CARD OF 'vellumlaw18.TreeBlanks'. -/
def treeBlanksCard : Claim7 := { stood := { row := treeBlanksRow, standIns := [], harness := (true, "6c891ab26569f443701705a6bd47d495fb63051466f7db6f3a9dba48ef1523b5"), looks := true }, kinds := [], alts := [], laidByText := true, laidKinds := [.data, .handle, .sentinel, .sentinel, .sentinel, .sentinel, .sentinel, .sentinel, .sentinel, .sentinel, .sentinel, .sentinel, .sentinel, .sentinel, .sentinel, .sentinel, .sentinel, .sentinel, .sentinel, .sentinel, .sentinel, .pinned], laidTests := true, laidLooks := .later }
def TreeBlanksCardSaid : Prop := Claim7.holds Tryd.pinned (.plain (OpenSpec.ofChange treeBlanksSpec)) treeBlanksCard

/-- THE TIED CARD OF 'vellumlaw02.ValuesReads'. -/
def valuesReadsCard : Claim7 := { stood := { row := valuesReadsRow, standIns := [], harness := (true, "6c891ab26569f443701705a6bd47d495fb63051466f7db6f3a9dba48ef1523b5"), looks := true }, kinds := [], alts := [], laidByText := true, laidKinds := [.data, .data, .data, .data, .sentinel, .sentinel, .sentinel, .sentinel, .sentinel, .sentinel, .sentinel, .sentinel, .sentinel, .sentinel, .sentinel, .sentinel, .sentinel, .sentinel, .sentinel, .sentinel, .sentinel, .sentinel, .sentinel, .sentinel, .sentinel, .pinned], laidTests := true, laidLooks := .later }
def ValuesReadsCardSaid : Prop := Claim7.holds Tryd.pinned (.plain (OpenSpec.ofChange valuesReadsSpec)) valuesReadsCard

/-- THE TIED CARD OF 'vellumlaw02.ValuesTypes'. -/
def valuesTypesCard : Claim7 := { stood := { row := valuesTypesRow, standIns := [], harness := (true, "6c891ab26569f443701705a6bd47d495fb63051466f7db6f3a9dba48ef1523b5"), looks := true }, kinds := [], alts := [], laidByText := true, laidKinds := [.data, .data, .data, .data, .sentinel, .sentinel, .sentinel, .sentinel, .sentinel, .sentinel, .pinned], laidTests := true, laidLooks := .later }
def ValuesTypesCardSaid : Prop := Claim7.holds Tryd.pinned (.plain (OpenSpec.ofChange valuesTypesSpec)) valuesTypesCard

/-- THE TIED CARD OF 'vellumlaw02.ValuesBack'. -/
def valuesBackCard : Claim7 := { stood := { row := valuesBackRow, standIns := [], harness := (true, "6c891ab26569f443701705a6bd47d495fb63051466f7db6f3a9dba48ef1523b5"), looks := true }, kinds := [], alts := [], laidByText := true, laidKinds := [.data, .data, .data, .data, .sentinel, .sentinel, .sentinel, .sentinel, .sentinel, .sentinel, .pinned], laidTests := true, laidLooks := .later }
def ValuesBackCardSaid : Prop := Claim7.holds Tryd.pinned (.plain (OpenSpec.ofChange valuesBackSpec)) valuesBackCard

/-- THE TIED CARD OF 'vellumlaw02.ValuesEqual'. -/
def valuesEqualCard : Claim7 := { stood := { row := valuesEqualRow, standIns := [], harness := (true, "6c891ab26569f443701705a6bd47d495fb63051466f7db6f3a9dba48ef1523b5"), looks := true }, kinds := [], alts := [], laidByText := true, laidKinds := [.data, .data, .data, .data, .sentinel, .sentinel, .sentinel, .sentinel, .sentinel, .sentinel, .pinned], laidTests := true, laidLooks := .later }
def ValuesEqualCardSaid : Prop := Claim7.holds Tryd.pinned (.plain (OpenSpec.ofChange valuesEqualSpec)) valuesEqualCard

/-- THE TIED CARD OF 'vellumlaw02.ValuesOrder'. -/
def valuesOrderCard : Claim7 := { stood := { row := valuesOrderRow, standIns := [], harness := (true, "6c891ab26569f443701705a6bd47d495fb63051466f7db6f3a9dba48ef1523b5"), looks := true }, kinds := [], alts := [], laidByText := true, laidKinds := [.data, .data, .data, .data, .sentinel, .sentinel, .sentinel, .sentinel, .sentinel, .sentinel, .pinned], laidTests := true, laidLooks := .later }
def ValuesOrderCardSaid : Prop := Claim7.holds Tryd.pinned (.plain (OpenSpec.ofChange valuesOrderSpec)) valuesOrderCard

/-- THE SECOND FORM's CARD OF 'vellumlaw18.TreeBlanks'. -/
def treeBlanksUptoCard : Claim7 := { stood := { row := treeBlanksUptoRow, standIns := [], harness := (true, "6c891ab26569f443701705a6bd47d495fb63051466f7db6f3a9dba48ef1523b5"), looks := true }, kinds := [], alts := [], laidByText := true, laidKinds := [.data, .handle, .sentinel, .sentinel, .sentinel, .sentinel, .sentinel, .sentinel, .sentinel, .sentinel, .sentinel, .sentinel, .sentinel, .sentinel, .sentinel, .sentinel, .sentinel, .sentinel, .sentinel, .sentinel, .sentinel, .pinned], laidTests := true, laidLooks := .later }
def TreeBlanksUptoCardSaid : Prop := Claim7.holds Tryd.pinned (.plain (OpenSpec.upto treeBlanksSpec)) treeBlanksUptoCard

/-- THE SECOND FORM's CARD OF 'vellumlaw02.ValuesReads'. -/
def valuesReadsUptoCard : Claim7 := { stood := { row := valuesReadsUptoRow, standIns := [], harness := (true, "6c891ab26569f443701705a6bd47d495fb63051466f7db6f3a9dba48ef1523b5"), looks := true }, kinds := [], alts := [], laidByText := true, laidKinds := [.data, .data, .data, .data, .sentinel, .sentinel, .sentinel, .sentinel, .sentinel, .sentinel, .sentinel, .sentinel, .sentinel, .sentinel, .sentinel, .sentinel, .sentinel, .sentinel, .sentinel, .sentinel, .sentinel, .sentinel, .sentinel, .sentinel, .sentinel, .pinned], laidTests := true, laidLooks := .later }
def ValuesReadsUptoCardSaid : Prop := Claim7.holds Tryd.pinned (.plain (OpenSpec.upto valuesReadsSpec)) valuesReadsUptoCard

/-- THE SECOND FORM's CARD OF 'vellumlaw02.ValuesTypes'. -/
def valuesTypesUptoCard : Claim7 := { stood := { row := valuesTypesUptoRow, standIns := [], harness := (true, "6c891ab26569f443701705a6bd47d495fb63051466f7db6f3a9dba48ef1523b5"), looks := true }, kinds := [], alts := [], laidByText := true, laidKinds := [.data, .data, .data, .data, .sentinel, .sentinel, .sentinel, .sentinel, .sentinel, .sentinel, .pinned], laidTests := true, laidLooks := .later }
def ValuesTypesUptoCardSaid : Prop := Claim7.holds Tryd.pinned (.plain (OpenSpec.upto valuesTypesSpec)) valuesTypesUptoCard

/-- THE SECOND FORM's CARD OF 'vellumlaw02.ValuesBack'. -/
def valuesBackUptoCard : Claim7 := { stood := { row := valuesBackUptoRow, standIns := [], harness := (true, "6c891ab26569f443701705a6bd47d495fb63051466f7db6f3a9dba48ef1523b5"), looks := true }, kinds := [], alts := [], laidByText := true, laidKinds := [.data, .data, .data, .data, .sentinel, .sentinel, .sentinel, .sentinel, .sentinel, .sentinel, .pinned], laidTests := true, laidLooks := .later }
def ValuesBackUptoCardSaid : Prop := Claim7.holds Tryd.pinned (.plain (OpenSpec.upto valuesBackSpec)) valuesBackUptoCard

/-- THE SECOND FORM's CARD OF 'vellumlaw02.ValuesEqual'. -/
def valuesEqualUptoCard : Claim7 := { stood := { row := valuesEqualUptoRow, standIns := [], harness := (true, "6c891ab26569f443701705a6bd47d495fb63051466f7db6f3a9dba48ef1523b5"), looks := true }, kinds := [], alts := [], laidByText := true, laidKinds := [.data, .data, .data, .data, .sentinel, .sentinel, .sentinel, .sentinel, .sentinel, .sentinel, .pinned], laidTests := true, laidLooks := .later }
def ValuesEqualUptoCardSaid : Prop := Claim7.holds Tryd.pinned (.plain (OpenSpec.upto valuesEqualSpec)) valuesEqualUptoCard

/-- THE SECOND FORM's CARD OF 'vellumlaw02.ValuesOrder'. -/
def valuesOrderUptoCard : Claim7 := { stood := { row := valuesOrderUptoRow, standIns := [], harness := (true, "6c891ab26569f443701705a6bd47d495fb63051466f7db6f3a9dba48ef1523b5"), looks := true }, kinds := [], alts := [], laidByText := true, laidKinds := [.data, .data, .data, .data, .sentinel, .sentinel, .sentinel, .sentinel, .sentinel, .sentinel, .pinned], laidTests := true, laidLooks := .later }
def ValuesOrderUptoCardSaid : Prop := Claim7.holds Tryd.pinned (.plain (OpenSpec.upto valuesOrderSpec)) valuesOrderUptoCard
end Rows
end Go.Proofs.YtfdhklpabhhjjaaDoor
