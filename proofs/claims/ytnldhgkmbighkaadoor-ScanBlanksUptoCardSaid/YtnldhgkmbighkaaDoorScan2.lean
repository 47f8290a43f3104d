/- Package scan: the walks of hex and escape. -/
import Derived.Test.YtnldhgkmbighkaaDoorScan1
namespace Go.Proofs.YtnldhgkmbighkaaDoor
open Go Go.RowKit

/-- A scanner: its text, its place. -/
def ScB (s : ByteArray) (p : Int) (b : Nat) (w : World) : Prop := w.heap[b]? = some (.cells #[.string s, .int .i64 p] 139 (0, 0))
theorem ScB.s {s : ByteArray} {p : Int} {b : Nat} {w : World} (h : ScB s p b w) : w.cell? ⟨b, 0, none⟩ = some (.string s) := cellB h 0 rfl
theorem ScB.at {s : ByteArray} {p : Int} {b : Nat} {w : World} (h : ScB s p b w) : w.cell? ⟨b, 1, none⟩ = some (.int .i64 p) := cellB h 1 rfl
theorem ScB.next {s : ByteArray} {p : Int} {b : Nat} {w w1 : World} (h : ScB s p b w) (hb : Below w.heap.size w w1) : ScB s p b w1 := box_next h hb
def hexS : ByteArray := ⟨#[48, 49, 50, 51, 52, 53, 54, 55, 56, 57, 97, 98, 99, 100, 101, 102]⟩
/-- What IndexByte tells of a byte with bit 32. -/
def hexI (c : Nat) : Int := Lib.indexByte [48, 49, 50, 51, 52, 53, 54, 55, 56, 57, 97, 98, 99, 100, 101, 102] (c ||| 32).toUInt8
theorem hexI_all : ∀ c, c < 256 → (if hexI c < 0 ∨ c < 48 then hexD c = 16 else hexI c = (hexD c : Int) ∧ hexD c < 16) := by decide +kernel
theorem hexI_ok {c : Nat} (h : c < 256) (hd : hexD c < 16) : hexI c = (hexD c : Int) ∧ 48 ≤ c := by
  have := hexI_all c h
  split at this
  · omega
  · exact ⟨this.1, by omega⟩
theorem hexI_no {c : Nat} (h : c < 256) (hd : ¬ hexD c < 16) : hexI c < 0 ∨ c < 48 := by
  have := hexI_all c h
  split at this
  · assumption
  · exact absurd this.2 hd
theorem bits32_all : ∀ c : Nat, c < 256 → bits BinOp.or IntKind.u8 (c : Int) 32 = ((c ||| 32 : Nat) : Int) := by decide +kernel
theorem or32_run (c : Nat) (h : c < 256) (w : World) : (binOp .or 5 (.int .u8 (c : Int)) (.int .u8 32)).run Tryd.prog w = .ok (.int .u8 ((c ||| 32 : Nat) : Int)) w := by
  go_simp
  exact bits32_all c h
theorem wrap16 (n : Nat) (h : n < 4096) : IntKind.i32.wrap ((n : Int) * 16) = (n : Int) * 16 := by rw [IntKind.wrap_i32]; omega
theorem or4 (n d : Nat) (h : n < 4096) (hd : d < 16) : bits BinOp.or IntKind.i32 ((n : Int) * 16) (d : Int) = (n : Int) * 16 + (d : Int) :=
  bits_join .i32 31 (by decide) wraps_i32 4 _ _ (by omega) (by omega) (by omega) (by omega) (by omega) (by omega)
theorem hexF_lt {s : ByteArray} {i k : Nat} (h : hexF s i k < 65536) : hexF s i k < 16 ^ k := (hexF_ok s i k h).2
theorem hexF_bad {s : ByteArray} {i k : Nat} (h : hexF s i k = 65536) : ∀ m, k ≤ m → hexF s i m = 65536
  | 0, hm => by obtain rfl : k = 0 := by omega
                exact h
  | m + 1, hm => by
    by_cases he : k = m + 1
    · rw [← he]; exact h
    · have := hexF_bad h m (by omega)
      rw [hexF, if_neg (by omega)]
/-- What hex answers. -/
def hexR (h : Nat) : Value := if h < 65536 then .tuple #[.int .i32 (h : Int), .bool true] else .tuple #[.int .i32 0, .bool false]
set_option maxHeartbeats 2000000 in
set_option maxRecDepth 100000 in
theorem hex_in (s : ByteArray) (p : Int) (b i : Nat) (w : World) (hs : (s.size : Int) ≤ 140737488351232) (hsc : ScB s p b w) (h6 : (i : Int) + 6 ≤ (s.size : Int)) (h0 : bAt s i = 92) (h1 : bAt s (i + 1) = 117) :
    Calls Tryd.prog 110 #[.pointer (some ⟨b, 0, none⟩), .int .i64 (i : Int)] w fun e w' => e = .returned (hexR (hexF s (i + 2) 4)) ∧ w' = w := by
  have x0 := hsc.s
  have x1 := hsc.at
  have hx0 : ∀ h, ((s[i]'h).toNat : Int) = 92 := fun h => by rw [bAt_eq, h0]; rfl
  have hx1 : ∀ h, ((s[i + 1]'h).toNat : Int) = 117 := fun h => by rw [bAt_eq, h1]; rfl
  replace h0 := Lib.hid h0
  replace h1 := Lib.hid h1
  replace hsc := Lib.hid hsc
  obtain ⟨r, hr⟩ : ∃ r, r = hexF s (i + 2) 4 := ⟨_, rfl⟩
  rw [← hr]
  replace hr := Lib.hid hr
  go_enter Tryd.func110, Tryd.ntmps110
  go_wp2_with fail
  clear hx0 hx1
  go_loop [6, 36] (fun v6 v36 => ∃ k : Nat, k ≤ 4 ∧ v36 = .int .i64 (k : Int) ∧ v6 = .int .i32 ((hexF s (i + 2) k : Nat) : Int) ∧ hexF s (i + 2) k < 65536) (fun _ v36 => 4 - (intOf v36).toNat)
  case atStart => exact ⟨0, by decide, rfl, rfl, by show (0 : Nat) < 65536; decide⟩
  case round =>
    obtain ⟨k, hk, rfl, rfl, hlt⟩ := hrel
    by_cases h4 : k < 4
    · have hx : ∀ h, ((s[i + 2 + k]'h).toNat : Int) = (bAt s (i + 2 + k) : Int) := byte_at s _
      have hc := bAt_lt s (i + 2 + k)
      have ho := bits32_all (bAt s (i + 2 + k)) hc
      have hb := hexF_lt hlt
      have I : ∀ w, Calls Tryd.prog 71 #[.string ⟨#[48, 49, 50, 51, 52, 53, 54, 55, 56, 57, 97, 98, 99, 100, 101, 102]⟩, .int .u8 ((bAt s (i + 2 + k) ||| 32 : Nat) : Int)] w fun e w' => e = .returned (.int .i64 (hexI (bAt s (i + 2 + k)))) ∧ w' = w := fun w => Tryd.strings_IndexByte ⟨#[48, 49, 50, 51, 52, 53, 54, 55, 56, 57, 97, 98, 99, 100, 101, 102]⟩ _ w
      have hn : hexF s (i + 2) (k + 1) = if hexF s (i + 2) k < 65536 ∧ hexD (bAt s (i + 2 + k)) < 16 then hexF s (i + 2) k * 16 + hexD (bAt s (i + 2 + k)) else 65536 := rfl
      replace I := Lib.hid I
      by_cases hd : hexD (bAt s (i + 2 + k)) < 16
      · have hi := hexI_ok hc hd
        have hn2 : hexF s (i + 2) (k + 1) = hexF s (i + 2) k * 16 + hexD (bAt s (i + 2 + k)) := by rw [hn, if_pos ⟨hlt, hd⟩]
        have h12 : hexF s (i + 2) k < 4096 := by
          have : 16 ^ k ≤ 16 ^ 3 := Nat.pow_le_pow_right (by decide) (by omega)
          omega
        rw [hi.1] at I
        have hge : (48 : Int) ≤ (bAt s (i + 2 + k) : Int) := by omega
        have hw := wrap16 _ h12
        have hor := or4 _ _ h12 hd
        clear hn hi hb
        generalize hexD (bAt s (i + 2 + k)) = d at *
        generalize hexF s (i + 2) k = n at *
        replace hn2 := Lib.hid hn2
        generalize bAt s (i + 2 + k) = c at *
        replace hc := Lib.hid hc
        go_wp2_with fail
        refine (I.out _).mono ?_
        rintro e w1 ⟨rfl, rfl⟩
        go_wp2_with fail
        go_round
        case rel => exact ⟨k + 1, by omega, by go_num, by rw [hn2.out]; go_num, by rw [hn2.out]; omega⟩
        case measure => simp [intOf]; omega
      · have hi := hexI_no hc hd
        have hn2 : hexF s (i + 2) (k + 1) = 65536 := by rw [hn, if_neg (fun h => hd h.2)]
        have hend : Hid (¬ r < 65536) := by
          have h4' : hexF s (i + 2) 4 = 65536 := hexF_bad hn2 4 (by omega)
          exact Lib.hid (by rw [hr.out, h4']; decide)
        clear hn hb hd
        generalize hexI (bAt s (i + 2 + k)) = d at *
        generalize bAt s (i + 2 + k) = c at *
        replace hc := Lib.hid hc
        by_cases hd : d < 0
        · replace hi := Lib.hid hi
          go_wp2_with fail
          refine (I.out _).mono ?_
          rintro e w1 ⟨rfl, rfl⟩
          go_wp2_with fail
          go_ret2
          exact ⟨by rw [hexR, if_neg hend.out]; rfl, rfl⟩
        · have hi2 : (c : Int) < 48 := by omega
          replace hi := Lib.hid hi
          go_wp2_with fail
          refine (I.out _).mono ?_
          rintro e w1 ⟨rfl, rfl⟩
          go_wp2_with fail
          go_ret2
          exact ⟨by rw [hexR, if_neg hend.out]; rfl, rfl⟩
    · obtain rfl : k = 4 := by omega
      have hlt2 : r < 65536 := by rw [hr.out]; exact hlt
      have hre : hexF s (i + 2) 4 = r := hr.out.symm
      go_wp2_with fail
      go_ret2
      exact ⟨by rw [hexR, if_pos hlt2]; rfl, rfl⟩
theorem hex_calls (s : ByteArray) (p : Int) (b i : Nat) (w : World) (hs : (s.size : Int) ≤ 140737488351232) (hsc : ScB s p b w) (hi : (i : Int) ≤ 140737488351300) :
    Calls Tryd.prog 110 #[.pointer (some ⟨b, 0, none⟩), .int .i64 (i : Int)] w fun e w' => e = .returned (hexR (hexAt s i)) ∧ w' = w := by
  by_cases h6 : (i : Int) + 6 ≤ (s.size : Int)
  · by_cases h0 : bAt s i = 92
    · by_cases h1 : bAt s (i + 1) = 117
      · have e : hexAt s i = hexF s (i + 2) 4 := by unfold hexAt; rw [if_pos ⟨h0, h1⟩]
        rw [e]
        exact hex_in s p b i w hs hsc h6 h0 h1
      · have e : hexAt s i = 65536 := by unfold hexAt; rw [if_neg (fun h => h1 h.2)]
        have x0 := hsc.s
        have hx0 : ∀ h, ((s[i]'h).toNat : Int) = 92 := fun h => by rw [bAt_eq, h0]; rfl
        have hx1 : ∀ h, ((s[i + 1]'h).toNat : Int) = (bAt s (i + 1) : Int) := byte_at s _
        have hb1 : ((bAt s (i + 1) : Int) != 117) = true := by simp; omega
        rw [e]
        replace h0 := Lib.hid h0
        replace h1 := Lib.hid h1
        replace hsc := Lib.hid hsc
        replace e := Lib.hid e
        go_enter Tryd.func110, Tryd.ntmps110
        go_wp2_with fail
        go_ret2
        exact ⟨rfl, rfl⟩
    · have e : hexAt s i = 65536 := by unfold hexAt; rw [if_neg (fun h => h0 h.1)]
      have x0 := hsc.s
      have hx0 : ∀ h, ((s[i]'h).toNat : Int) = (bAt s i : Int) := byte_at s _
      have hb0 : ((bAt s i : Int) != 92) = true := by simp; omega
      rw [e]
      replace h0 := Lib.hid h0
      replace hsc := Lib.hid hsc
      replace e := Lib.hid e
      go_enter Tryd.func110, Tryd.ntmps110
      go_wp2_with fail
      go_ret2
      exact ⟨rfl, rfl⟩
  · have e : hexAt s i = 65536 := by
      by_cases h : hexAt s i < 65536
      · have := (hexAt_ok h).1; omega
      · have := hexAt_le s i; omega
    have x0 := hsc.s
    rw [e]
    replace hsc := Lib.hid hsc
    replace e := Lib.hid e
    go_enter Tryd.func110, Tryd.ntmps110
    go_wp2_with fail
    go_ret2
    exact ⟨rfl, rfl⟩

end Go.Proofs.YtnldhgkmbighkaaDoor
