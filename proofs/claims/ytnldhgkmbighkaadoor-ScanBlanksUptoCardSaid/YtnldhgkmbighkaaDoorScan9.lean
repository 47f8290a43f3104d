/- Package scan: blanks. -/
import Derived.Test.YtnldhgkmbighkaaDoorScan8
namespace Go.Proofs.YtnldhgkmbighkaaDoor
open Go Go.RowKit

theorem grown_refl (w : World) (r : Option Nat) : w.grownBy w r := ⟨rfl, rfl, rfl, Nat.le_refl _, fun _ _ _ => rfl⟩
theorem grown_trans {a b c : World} {r : Option Nat} (h : a.grownBy b r) (k : b.grownBy c r) : a.grownBy c r :=
  ⟨k.os.trans h.os, k.tape.trans h.tape, k.output.trans h.output, Nat.le_trans h.size k.size, fun i hi hr => (k.block i (Nat.lt_of_lt_of_le hi h.size) hr).trans (h.block i hi hr)⟩
theorem grown_drew {a b : World} {r : Option Nat} (h : a.grownBy b r) : a.grownBy b.drew r := ⟨h.os, h.tape, h.output, h.size, h.block⟩
theorem grown_set (a : World) (b j : Nat) (v : Value) : a.grownBy (a.setCell ⟨b, j, none⟩ v) (some b) := by
  refine ⟨?_, ?_, ?_, ?_, ?_⟩
  · have := Below.setCell (B := 0) (Below.refl 0 a) (p := ⟨b, j, none⟩) (Nat.zero_le _) v; exact this.os
  · have := Below.setCell (B := 0) (Below.refl 0 a) (p := ⟨b, j, none⟩) (Nat.zero_le _) v; exact this.tape
  · have := Below.setCell (B := 0) (Below.refl 0 a) (p := ⟨b, j, none⟩) (Nat.zero_le _) v; exact this.output
  · have := Below.setCell (B := 0) (Below.refl 0 a) (p := ⟨b, j, none⟩) (Nat.zero_le _) v; exact this.size
  · intro k _ hr
    exact Below.heap_setCell _ _ _ _ (fun h => hr (by rw [h]))
theorem grown_below {a b : World} {r : Nat} {n : Nat} (h : a.grownBy b (some r)) (hn : n ≤ a.heap.size) (hr : n ≤ r) : Below n a b := Below.grown (Below.refl n a) h hn (fun k hk => by cases hk; exact hr)
theorem grown_of_below {a b : World} {r : Option Nat} (h : Below a.heap.size a b) : a.grownBy b r := ⟨h.os, h.tape, h.output, h.size, fun k hk _ => h.block k hk⟩
theorem ScB.set {s : ByteArray} {p q : Int} {b : Nat} {w : World} (h : ScB s p b w) : ScB s q b (w.setCell ⟨b, 1, none⟩ (.int .i64 q)) := by
  unfold ScB at h ⊢
  rw [Lib.heap_setCell_same (i := 1) h]
  rfl
theorem grown_drewN {a b : World} {r : Option Nat} (h : a.grownBy b r) (n : Nat) : a.grownBy (b.drewN n) r := ⟨h.os, h.tape, h.output, h.size, h.block⟩
theorem ScB.drewN {s : ByteArray} {p : Int} {b : Nat} {w : World} (h : ScB s p b w) (n : Nat) : ScB s p b (w.drewN n) := h
def blkI (c : Nat) : Int := Lib.indexByte [32, 9, 10, 13] c.toUInt8
theorem blkI_all : ∀ c, c < 256 → (if blankN c = true then 0 ≤ blkI c else blkI c < 0) := by decide +kernel
set_option maxHeartbeats 1000000 in
theorem blanks_calls (s : ByteArray) (p b : Nat) (w : World) (hs : s.size ≤ 140737488351232) (hp : p ≤ s.size) (hsc : ScB s (p : Int) b w) :
    Calls Tryd.prog 55 #[.pointer (some ⟨b, 0, none⟩)] w fun e w' => e = .returned (.tuple #[]) ∧ ScB s (blkAt s p : Nat) b w' ∧ w.grownBy w' (some b) := by
  obtain ⟨r, hr⟩ : ∃ r, blkAt s p = r := ⟨_, rfl⟩
  rw [hr]
  replace hr := Lib.hid hr
  go_enter Tryd.func55, Tryd.ntmps55
  (go_wp2_with fail; repeat (any_goals (go_quiet (fail); go_wp2_with fail)))
  go_loopg [] (s.size + 1 - p) (fun kq w' => ∃ k : Nat, k ≤ s.size ∧ Hid (blkAt s k = r) ∧ ScB s (k : Int) b w' ∧ Hid (w.grownBy w' (some b)) ∧ kq + k = s.size + 1)
  case atStart => exact ⟨p, hp, hr, hsc, Lib.hid (grown_refl _ _), by omega⟩
  case round =>
    obtain ⟨k, hk, hr2, hsc2, hg, hq⟩ := hrel
    have hx := byte_at s k
    have he := Lib.hid (blkAt_eq s k)
    have x0 := hsc2.s
    have x1 := hsc2.at
    have f1 := freeB hsc2 1
    replace hsc2 := Lib.hid hsc2
    have hk' : (k : Int) ≤ (s.size : Int) := by omega
    have hs' : (s.size : Int) ≤ 140737488351232 := by omega
    by_cases hlt : k < s.size
    · have hlt' : (k : Int) < (s.size : Int) := by omega
      have I : ∀ w, Calls Tryd.prog 71 #[.string ⟨#[32, 9, 10, 13]⟩, .int .u8 (bAt s k : Int)] w fun e w' => e = .returned (.int .i64 (blkI (bAt s k))) ∧ w' = w := fun w => Tryd.strings_IndexByte ⟨#[32, 9, 10, 13]⟩ _ w
      have hi := blkI_all (bAt s k) (bAt_lt s k)
      cases hb : blankN (bAt s k) with
      | true =>
        rw [if_pos hb] at hi
        replace hb := Lib.hid hb
        generalize blkI (bAt s k) = d at *
        generalize bAt s k = c at *
        replace I := Lib.hid I
        go_wp2_with fail
        go_quiet (exact ((I.out _).mono (by rintro e w1 ⟨rfl, rfl⟩; exact ⟨rfl, _, rfl⟩)))
        go_wp2_with fail
        go_roundg (s.size - k)
        case measure => omega
        case rel => exact ⟨k + 1, by omega, Lib.hid (by rw [← hr2.out, he.out, if_pos ⟨hlt, hb.out⟩]), (show ((k : Int) + 1) = ((k + 1 : Nat) : Int) by omega) ▸ (ScB.drewN hsc2.out nq).set, Lib.hid (grown_trans (grown_drewN hg.out nq) (grown_set _ _ _ _)), by omega⟩
      | false =>
        rw [if_neg (by rw [hb]; exact Bool.false_ne_true)] at hi
        replace hb := Lib.hid hb
        generalize blkI (bAt s k) = d at *
        generalize bAt s k = c at *
        replace I := Lib.hid I
        go_wp2_with fail
        go_quiet (exact ((I.out _).mono (by rintro e w1 ⟨rfl, rfl⟩; exact ⟨rfl, _, rfl⟩)))
        go_wp2_with fail
        go_end0
        exact ⟨rfl, by rw [show k = r by rw [← hr2.out, he.out, if_neg (fun h => by rw [hb.out] at h; exact absurd h.2 Bool.false_ne_true)]] at hsc2; exact ScB.drewN hsc2.out nq, grown_drewN hg.out nq⟩
    · have hge : ¬ ((k : Int) < (s.size : Int)) := by omega
      (go_wp2_with fail; repeat (any_goals (go_quiet (fail); go_wp2_with fail)))
      go_end0
      exact ⟨rfl, by rw [show k = r by rw [← hr2.out, he.out, if_neg (fun h => hlt h.1)]] at hsc2; exact hsc2.out, grown_drewN hg.out _⟩

end Go.Proofs.YtnldhgkmbighkaaDoor
