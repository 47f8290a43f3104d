/-
  DERIVED. GIVEN WITH THE SEED: THE CARDS: each row of YtibopkodoidjoaaDoorRows.lean that lists a variable, with what it lists TIED to the program's text (the seventh form; the later family's looks); each row that meets fmt, with fmt's text TOLD by the authors' own Lean function (tested against real Go, not proved from fmt's source: count such statements apart). THE CARD IS WHAT COUNTS. Prove the row's statement (the work); the ties are given (YtibopkodoidjoaaDoorTie.lean); close each card by the builder's one call (the guide's Derived/Test/ToyasCard.lean, 'card_holds'). Laid BY PROGRAM, IN A SANDBOX (cutbox-door.mjs). By AI agents, Wed Nov 11 2026. No macro, syntax, notation, axiom, sorry.
-/
import Derived.Test.YtibopkodoidjoaaDoorRows
import GoSem.ClaimSeven
namespace Go.Proofs.YtibopkodoidjoaaDoor
namespace Rows

/-- THE TIED CARD OF 'vellumlaw18.TreeBlanks'. -/
def treeBlanksCard : Claim7 := { stood := { row := treeBlanksRow, standIns := [], harness := (true, "d9be634c9fc17a9b1a96987fdf2a2adc10310e0b636e12863973887e8646c827"), looks := true }, kinds := [], alts := [], laidByText := true, laidKinds := [.data, .handle, .sentinel, .sentinel, .sentinel, .sentinel, .sentinel, .sentinel, .sentinel, .sentinel, .sentinel, .sentinel, .sentinel, .sentinel, .sentinel, .sentinel, .sentinel, .sentinel, .sentinel, .sentinel, .sentinel, .pinned], laidTests := true, laidLooks := .later }
def TreeBlanksCardSaid : Prop := Claim7.holds Tryd.pinned (.plain (OpenSpec.ofChange treeBlanksSpec)) treeBlanksCard

/-- THE SECOND FORM's CARD OF 'vellumlaw18.TreeBlanks'. -/
def treeBlanksUptoCard : Claim7 := { stood := { row := treeBlanksUptoRow, standIns := [], harness := (true, "d9be634c9fc17a9b1a96987fdf2a2adc10310e0b636e12863973887e8646c827"), looks := true }, kinds := [], alts := [], laidByText := true, laidKinds := [.data, .handle, .sentinel, .sentinel, .sentinel, .sentinel, .sentinel, .sentinel, .sentinel, .sentinel, .sentinel, .sentinel, .sentinel, .sentinel, .sentinel, .sentinel, .sentinel, .sentinel, .sentinel, .sentinel, .sentinel, .pinned], laidTests := true, laidLooks := .later }
def TreeBlanksUptoCardSaid : Prop := Claim7.holds Tryd.pinned (.plain (OpenSpec.upto treeBlanksSpec)) treeBlanksUptoCard
end Rows
end Go.Proofs.YtibopkodoidjoaaDoor
