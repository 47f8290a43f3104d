/- A list of whole numbers that came in, as it lies in memory. -/
import Derived.Test.YtnldhgkmbighkaaDoorLaw
import Derived.Test.YtnldhgkmbighkaaDoorGlued
import Derived.ChangeSlices
namespace Go.Proofs.YtnldhgkmbighkaaDoor
open Go Go.RowKit Go.WideShapes Go.ChangeShapes Go.ChangeAt

theorem cells_int : Tryd.prog.cellsOf 3 = 1 := by kernel_rfl
set_option maxRecDepth 100000 in
theorem ints_of {H : Type} {enc : TypeId × Value → H} {W : World} {base : Nat} {v : Value} {d : DataW H} {ps : List MemPlace} (hval : Value.okWide Tryd.prog W .any base 45 v) (h : DataW.Trod enc Tryd.prog W 0 (fun _ => true) true 45 v d ps) : ∃ zs, IntsAt W v zs := by
  obtain ⟨fuel, hf⟩ := h
  obtain ⟨a0, len, cap, rfl⟩ := okWide_slice Tryd.underlying45 hval
  rcases open_ints Tryd.underlying45 Tryd.underlying3 cells_int hf with ⟨hcs, hx⟩ | ⟨a, len', cap', zs, hcs, _, hl, hm, hz, hx, hcell, hwz⟩
  · simp [Value.cells] at hcs
    obtain ⟨rfl, rfl, rfl⟩ := hcs
    exact ⟨[], Or.inl ⟨rfl, _, _, rfl⟩⟩
  · simp [Value.cells] at hcs
    obtain ⟨rfl, rfl, rfl⟩ := hcs
    simp only [if_true] at hz
    by_cases h0 : len = 0
    · subst h0
      exact ⟨[], Or.inl ⟨rfl, _, _, rfl⟩⟩
    · obtain ⟨b, off, spot⟩ := a
      have hspot : spot = none := by simpa [Addr.add] using World.cell?_spot (hcell 0 (by omega))
      subst hspot
      have hlt := World.block_lt_of_cell? W _ (hcell 0 (by omega))
      have hlen : (zs.take len).length = len := by rw [List.length_take]; omega
      refine ⟨zs.take len, Or.inr ⟨b, off, cap, by rw [hlen], by rw [hlen]; exact hl, hm, by simpa [Addr.add] using hlt, fun i z hi => ?_⟩⟩
      have hil : i < len := by
        rcases Nat.lt_or_ge i (zs.take len).length with h | h
        · omega
        · rw [List.getElem?_eq_none h] at hi; cases hi
      rw [List.getElem?_take_of_lt hil] at hi
      have := hcell i (by omega)
      have e : (⟨b, off, none⟩ : Addr).add i = ⟨b, off + i, none⟩ := by simp only [Addr.add]; split <;> simp_all
      rw [e] at this
      rw [this]
      simp [List.getD, hi]

end Go.Proofs.YtnldhgkmbighkaaDoor
