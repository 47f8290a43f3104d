/- A block that is kept; how long texts of values are. -/
import Derived.Test.YtfdhklpabhhjjaaGreatDoorVal4
import Derived.Lib.ItoaLen
namespace Go.Proofs.YtfdhklpabhhjjaaGreatDoor
open Go Go.RowKit

theorem itoa_size (n : Int) (h0 : -9223372036854775808 ≤ n) (h1 : n ≤ 9223372036854775807) : (⟨(Lib.itoa n).toArray⟩ : ByteArray).size ≤ 21 := Lib.itoa_length_le n h0 h1
theorem vText_size {p : Pl} (h : vCheck p = 0) (h0 : -9223372036854775808 ≤ p.num) (h1 : p.num ≤ 9223372036854775807) : (vText p).size ≤ 1048577 := by
  obtain ⟨k, n, t⟩ := p
  have ht := good_size h
  rcases good_cases h with ⟨rfl, rfl, rfl⟩ | ⟨rfl, rfl, rfl⟩ | ⟨rfl, rfl, rfl⟩ | ⟨rfl, rfl⟩ | ⟨rfl, rfl, h2⟩
  · decide
  · show (⟨(Lib.formatBool false).toArray⟩ : ByteArray).size ≤ _
    exact Nat.le_trans (show (Lib.formatBool false).length ≤ 5 by decide) (by decide)
  · show (⟨(Lib.formatBool true).toArray⟩ : ByteArray).size ≤ _
    exact Nat.le_trans (show (Lib.formatBool true).length ≤ 5 by decide) (by decide)
  · exact Nat.le_trans (itoa_size n h0 h1) (by decide)
  · show ((⟨#[39]⟩ : ByteArray) ++ t).size ≤ _
    rw [ByteArray.size_append]
    have : (⟨#[39]⟩ : ByteArray).size = 1 := rfl
    omega

/-- A block that is kept, beside what lay below. -/
def KeepBox (w0 : World) (g : Nat) (cs : Array Value) (t : TypeId) (w : World) : Prop := w.heap[g]? = some (.cells cs t (0, 0)) ∧ Below w0.heap.size w0 w
theorem KeepBox.drew {w0 : World} {g : Nat} {cs : Array Value} {t : TypeId} {w : World} (h : KeepBox w0 g cs t w) : KeepBox w0 g cs t w.drew := ⟨h.1, h.2.drew⟩
theorem KeepBox.call {w0 : World} {g : Nat} {cs : Array Value} {t : TypeId} {w w1 : World} (h : KeepBox w0 g cs t w) (hb : Below w.heap.size w w1) : KeepBox w0 g cs t w1 := ⟨box_next h.1 hb, bcall h.2 hb⟩
theorem KeepBox.cells3 {w0 : World} {g : Nat} {a b c : Value} {t : TypeId} {w : World} (h : KeepBox w0 g #[a, b, c] t w) :
    w.cell? ⟨g, 0, none⟩ = some a ∧ w.cell? ⟨g, 1, none⟩ = some b ∧ w.cell? ⟨g, 2, none⟩ = some c ∧ KeepBox w0 g #[a, b, c] t w :=
  ⟨cellB h.1 0 rfl, cellB h.1 1 rfl, cellB h.1 2 rfl, h⟩


end Go.Proofs.YtfdhklpabhhjjaaGreatDoor
