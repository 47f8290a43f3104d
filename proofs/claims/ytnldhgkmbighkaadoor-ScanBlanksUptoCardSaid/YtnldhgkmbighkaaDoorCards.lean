/-
  DERIVED. GIVEN WITH THE SEED: THE CARDS: each row of YtnldhgkmbighkaaDoorRows.lean that lists a variable, with what it lists TIED to the program's text (the seventh form; the later family's looks); each row that meets fmt, with fmt's text TOLD by the authors' own Lean function (tested against real Go, not proved from fmt's source: count such statements apart). THE CARD IS WHAT COUNTS. Prove the row's statement (the work); the ties are given (YtnldhgkmbighkaaDoorTie.lean); close each card by the builder's one call (the guide's Derived/Test/ToyasCard.lean, 'card_holds'). Laid BY PROGRAM, IN A SANDBOX (cutbox-door.mjs). By AI agents, Wed Nov 11 2026. No macro, syntax, notation, axiom, sorry.
-/
import Derived.Test.YtnldhgkmbighkaaDoorRows
import GoSem.ClaimSeven
namespace Go.Proofs.YtnldhgkmbighkaaDoor
namespace Rows

/-- THE TIED CARD OF 'vellumlaw18.TreeBlanks'. -/
def treeBlanksCard : Claim7 := { stood := { row := treeBlanksRow, standIns := [], harness := (true, "b90b4ca541011c505cd46bcbfd648d5de5e88dd4d711b02efb08621659a8f0a4"), looks := true }, kinds := [], alts := [], laidByText := true, laidKinds := [.data, .handle, .sentinel, .sentinel, .sentinel, .sentinel, .sentinel, .sentinel, .sentinel, .sentinel, .sentinel, .sentinel, .sentinel, .sentinel, .sentinel, .sentinel, .sentinel, .sentinel, .sentinel, .sentinel, .sentinel, .pinned], laidTests := true, laidLooks := .later }
def TreeBlanksCardSaid : Prop := Claim7.holds Tryd.pinned (.plain (OpenSpec.ofChange treeBlanksSpec)) treeBlanksCard

/-- THE TIED CARD OF 'vellumlaw17.ScanQuotes'. -/
def scanQuotesCard : Claim7 := { stood := { row := scanQuotesRow, standIns := [], harness := (true, "b90b4ca541011c505cd46bcbfd648d5de5e88dd4d711b02efb08621659a8f0a4"), looks := true }, kinds := [], alts := [], laidByText := true, laidKinds := [.data, .data, .data, .data, .sentinel, .sentinel, .sentinel, .sentinel, .sentinel, .sentinel, .sentinel, .sentinel, .sentinel, .sentinel, .sentinel, .sentinel, .sentinel, .sentinel, .sentinel, .sentinel, .sentinel, .sentinel, .sentinel, .sentinel, .sentinel, .pinned], laidTests := true, laidLooks := .later }
def ScanQuotesCardSaid : Prop := Claim7.holds Tryd.pinned (.plain (OpenSpec.ofChange scanQuotesSpec)) scanQuotesCard

/-- THE TIED CARD OF 'vellumlaw17.ScanWhole'. -/
def scanWholeCard : Claim7 := { stood := { row := scanWholeRow, standIns := [], harness := (true, "b90b4ca541011c505cd46bcbfd648d5de5e88dd4d711b02efb08621659a8f0a4"), looks := true }, kinds := [], alts := [], laidByText := true, laidKinds := [.data, .data, .data, .data, .sentinel, .sentinel, .sentinel, .sentinel, .sentinel, .sentinel, .sentinel, .sentinel, .sentinel, .sentinel, .sentinel, .sentinel, .sentinel, .sentinel, .sentinel, .sentinel, .sentinel, .sentinel, .sentinel, .sentinel, .sentinel, .pinned], laidTests := true, laidLooks := .later }
def ScanWholeCardSaid : Prop := Claim7.holds Tryd.pinned (.plain (OpenSpec.ofChange scanWholeSpec)) scanWholeCard

/-- THE TIED CARD OF 'vellumlaw17.ScanBlanks'. -/
def scanBlanksCard : Claim7 := { stood := { row := scanBlanksRow, standIns := [], harness := (true, "b90b4ca541011c505cd46bcbfd648d5de5e88dd4d711b02efb08621659a8f0a4"), looks := true }, kinds := [], alts := [], laidByText := true, laidKinds := [.data, .data, .data, .data, .sentinel, .sentinel, .sentinel, .sentinel, .sentinel, .sentinel, .sentinel, .sentinel, .sentinel, .sentinel, .sentinel, .sentinel, .sentinel, .sentinel, .sentinel, .sentinel, .sentinel, .sentinel, .sentinel, .sentinel, .sentinel, .pinned], laidTests := true, laidLooks := .later }
def ScanBlanksCardSaid : Prop := Claim7.holds Tryd.pinned (.plain (OpenSpec.ofChange scanBlanksSpec)) scanBlanksCard

/-- THE SECOND FORM's CARD OF 'vellumlaw18.TreeBlanks'. -/
def treeBlanksUptoCard : Claim7 := { stood := { row := treeBlanksUptoRow, standIns := [], harness := (true, "b90b4ca541011c505cd46bcbfd648d5de5e88dd4d711b02efb08621659a8f0a4"), looks := true }, kinds := [], alts := [], laidByText := true, laidKinds := [.data, .handle, .sentinel, .sentinel, .sentinel, .sentinel, .sentinel, .sentinel, .sentinel, .sentinel, .sentinel, .sentinel, .sentinel, .sentinel, .sentinel, .sentinel, .sentinel, .sentinel, .sentinel, .sentinel, .sentinel, .pinned], laidTests := true, laidLooks := .later }
def TreeBlanksUptoCardSaid : Prop := Claim7.holds Tryd.pinned (.plain (OpenSpec.upto treeBlanksSpec)) treeBlanksUptoCard

/-- THE SECOND FORM's CARD OF 'vellumlaw17.ScanQuotes'. -/
def scanQuotesUptoCard : Claim7 := { stood := { row := scanQuotesUptoRow, standIns := [], harness := (true, "b90b4ca541011c505cd46bcbfd648d5de5e88dd4d711b02efb08621659a8f0a4"), looks := true }, kinds := [], alts := [], laidByText := true, laidKinds := [.data, .data, .data, .data, .sentinel, .sentinel, .sentinel, .sentinel, .sentinel, .sentinel, .sentinel, .sentinel, .sentinel, .sentinel, .sentinel, .sentinel, .sentinel, .sentinel, .sentinel, .sentinel, .sentinel, .sentinel, .sentinel, .sentinel, .sentinel, .pinned], laidTests := true, laidLooks := .later }
def ScanQuotesUptoCardSaid : Prop := Claim7.holds Tryd.pinned (.plain (OpenSpec.upto scanQuotesSpec)) scanQuotesUptoCard

/-- THE SECOND FORM's CARD OF 'vellumlaw17.ScanWhole'. -/
def scanWholeUptoCard : Claim7 := { stood := { row := scanWholeUptoRow, standIns := [], harness := (true, "b90b4ca541011c505cd46bcbfd648d5de5e88dd4d711b02efb08621659a8f0a4"), looks := true }, kinds := [], alts := [], laidByText := true, laidKinds := [.data, .data, .data, .data, .sentinel, .sentinel, .sentinel, .sentinel, .sentinel, .sentinel, .sentinel, .sentinel, .sentinel, .sentinel, .sentinel, .sentinel, .sentinel, .sentinel, .sentinel, .sentinel, .sentinel, .sentinel, .sentinel, .sentinel, .sentinel, .pinned], laidTests := true, laidLooks := .later }
def ScanWholeUptoCardSaid : Prop := Claim7.holds Tryd.pinned (.plain (OpenSpec.upto scanWholeSpec)) scanWholeUptoCard

/-- THE SECOND FORM's CARD OF 'vellumlaw17.ScanBlanks'. -/
def scanBlanksUptoCard : Claim7 := { stood := { row := scanBlanksUptoRow, standIns := [], harness := (true, "b90b4ca541011c505cd46bcbfd648d5de5e88dd4d711b02efb08621659a8f0a4"), looks := true }, kinds := [], alts := [], laidByText := true, laidKinds := [.data, .data, .data, .data, .sentinel, .sentinel, .sentinel, .sentinel, .sentinel, .sentinel, .sentinel, .sentinel, .sentinel, .sentinel, .sentinel, .sentinel, .sentinel, .sentinel, .sentinel, .sentinel, .sentinel, .sentinel, .sentinel, .sentinel, .sentinel, .pinned], laidTests := true, laidLooks := .later }
def ScanBlanksUptoCardSaid : Prop := Claim7.holds Tryd.pinned (.plain (OpenSpec.upto scanBlanksSpec)) scanBlanksUptoCard
end Rows
end Go.Proofs.YtnldhgkmbighkaaDoor
