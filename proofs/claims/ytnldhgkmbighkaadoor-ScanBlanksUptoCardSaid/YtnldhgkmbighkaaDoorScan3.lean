/- Package scan: the walk of escape. -/
import Derived.Test.YtnldhgkmbighkaaDoorScan2
namespace Go.Proofs.YtnldhgkmbighkaaDoor
open Go Go.RowKit

set_option maxHeartbeats 400000 in
theorem Width_calls (r : Int) (w : World) :
    Calls Tryd.prog 111 #[.int .i32 r] w fun e w' => e = .returned (.int .i64 (max (Lib.runeLen r) 0)) ∧ w' = w := by
  have C := Lib.hid (fun w => Tryd.utf8_RuneLen r w)
  generalize Lib.runeLen r = n at *
  go_enter Tryd.func111, Tryd.ntmps111
  go_wp2_with fail
  refine (C.out _).mono ?_
  rintro e w1 ⟨rfl, rfl⟩
  go_wp2_with fail
  go_ret
  exact ⟨rfl, rfl⟩
set_option maxHeartbeats 400000 in
theorem Pair_ok' (x y : Int) (w : World) (h0 : 55296 ≤ x) (h1 : x < 56320) (h2 : 56320 ≤ y) (h3 : y ≤ 57343) :
    Calls Tryd.prog 112 #[.int .i32 x, .int .i32 y] w fun e w' => e = .returned (.tuple #[.int .i32 (65536 + (x - 55296) * 1024 + (y - 56320)), .nilIface]) ∧ w' = w := by
  go_enter Tryd.func112, Tryd.ntmps112
  go_wp2_with fail
  go_ret2
  exact ⟨rfl, rfl⟩
theorem Pair_ok (x y : Nat) (w : World) (h0 : 55296 ≤ x) (h1 : x < 56320) (h2 : 56320 ≤ y) (h3 : y ≤ 57343) :
    Calls Tryd.prog 112 #[.int .i32 (x : Int), .int .i32 (y : Int)] w fun e w' => e = .returned (.tuple #[.int .i32 ((65536 + (x - 55296) * 1024 + (y - 56320) : Nat) : Int), .nilIface]) ∧ w' = w := by
  have := Pair_ok' (x : Int) (y : Int) w (by omega) (by omega) (by omega) (by omega)
  rw [show (65536 : Int) + ((x : Int) - 55296) * 1024 + ((y : Int) - 56320) = ((65536 + (x - 55296) * 1024 + (y - 56320) : Nat) : Int) by omega] at this
  exact this
set_option maxHeartbeats 400000 in
theorem Pair_hi {A : Nat → Addr} {B : Nat} (x y : Int) (w : World) (hE : Env A B SU w) (h0 : 55296 ≤ x) (h1 : 56320 ≤ x) :
    Calls Tryd.prog 112 #[.int .i32 x, .int .i32 y] w fun e w' => e = .returned (.tuple #[.int .i32 0, .iface 203 (.pointer (some (A 1)))]) ∧ Below w.heap.size w w' := by
  have e1 := hE.e1
  have l1 := hE.l1
  go_enter Tryd.func112, Tryd.ntmps112
  (go_wp2_with fail; repeat (any_goals (go_quiet (fail); go_wp2_with fail)))
  go_ret2
  exact ⟨rfl, (by repeat (first | assumption | exact Below.refl _ _ | apply Below.drew | apply below_drewN | apply balloc | (refine Below.setCell ?_ (by first | omega | (simp <;> omega)) _)))⟩
set_option maxHeartbeats 400000 in
theorem Pair_lo1 {A : Nat → Addr} {B : Nat} (x y : Int) (w : World) (hE : Env A B SU w) (h0 : 55296 ≤ x) (h1 : x < 56320) (h2 : y < 56320) :
    Calls Tryd.prog 112 #[.int .i32 x, .int .i32 y] w fun e w' => e = .returned (.tuple #[.int .i32 0, .iface 203 (.pointer (some (A 1)))]) ∧ Below w.heap.size w w' := by
  have e1 := hE.e1
  have l1 := hE.l1
  go_enter Tryd.func112, Tryd.ntmps112
  (go_wp2_with fail; repeat (any_goals (go_quiet (fail); go_wp2_with fail)))
  go_ret2
  exact ⟨rfl, (by repeat (first | assumption | exact Below.refl _ _ | apply Below.drew | apply below_drewN | apply balloc | (refine Below.setCell ?_ (by first | omega | (simp <;> omega)) _)))⟩
set_option maxHeartbeats 400000 in
theorem Pair_lo2 {A : Nat → Addr} {B : Nat} (x y : Int) (w : World) (hE : Env A B SU w) (h0 : 55296 ≤ x) (h1 : x < 56320) (h2 : 56320 ≤ y) (h3 : 57343 < y) :
    Calls Tryd.prog 112 #[.int .i32 x, .int .i32 y] w fun e w' => e = .returned (.tuple #[.int .i32 0, .iface 203 (.pointer (some (A 1)))]) ∧ Below w.heap.size w w' := by
  have e1 := hE.e1
  have l1 := hE.l1
  go_enter Tryd.func112, Tryd.ntmps112
  (go_wp2_with fail; repeat (any_goals (go_quiet (fail); go_wp2_with fail)))
  go_ret2
  exact ⟨rfl, (by repeat (first | assumption | exact Below.refl _ _ | apply Below.drew | apply below_drewN | apply balloc | (refine Below.setCell ?_ (by first | omega | (simp <;> omega)) _)))⟩
theorem Pair_bad {A : Nat → Addr} {B : Nat} (x y : Nat) (w : World) (hE : Env A B SU w) (h0 : 55296 ≤ x) (h : ¬ (x < 56320 ∧ 56320 ≤ y ∧ y ≤ 57343)) :
    Calls Tryd.prog 112 #[.int .i32 (x : Int), .int .i32 (y : Int)] w fun e w' => e = .returned (.tuple #[.int .i32 0, .iface 203 (.pointer (some (A 1)))]) ∧ Below w.heap.size w w' := by
  by_cases h1 : x < 56320
  · by_cases h2 : y < 56320
    · exact Pair_lo1 (x : Int) (y : Int) w hE (by omega) (by omega) (by omega)
    · exact Pair_lo2 (x : Int) (y : Int) w hE (by omega) (by omega) (by omega) (by omega)
  · exact Pair_hi (x : Int) (y : Int) w hE (by omega) (by omega)

abbrev SJ : List Nat := [1, 2]
/-- What escape answers where there is an escape. -/
def EscOk (r n : Nat) (e : Ending) : Prop := e = .returned (.tuple #[.int .i32 (r : Int), .int .i64 (n : Int), .nilIface])
def EscBad (A : Nat → Addr) (k : Nat) (i : Nat) (w : World) (e : Ending) (w' : World) : Prop :=
  ∃ g, w.heap.size ≤ g ∧ e = .returned (.tuple #[.int .i32 0, .int .i64 0, .iface 34 (.pointer (some ⟨g, 0, none⟩))]) ∧ AtB (i : Int) (.iface 203 (.pointer (some (A k)))) g w'
set_option maxHeartbeats 1000000 in
theorem esc_q (s : ByteArray) (p : Int) (b i : Nat) (w : World) (hs : (s.size : Int) ≤ 140737488351232) (hsc : ScB s p b w) (hi : (i : Int) + 1 < (s.size : Int)) (hc : bAt s (i + 1) = 34) :
    Calls Tryd.prog 97 #[.pointer (some ⟨b, 0, none⟩), .int .i64 (i : Int)] w fun e w' => EscOk 34 2 e ∧ w' = w := by
  have x0 := hsc.s
  have hx : ∀ h, ((s[i + 1]'h).toNat : Int) = 34 := fun h => by rw [bAt_eq, hc]; rfl
  replace hsc := Lib.hid hsc
  replace hc := Lib.hid hc
  go_enter Tryd.func97, Tryd.ntmps97
  go_wp2_with fail
  exact bodyPost_ret (v := .tuple #[.int .i32 34, .int .i64 2, .nilIface]) (by simp [results, Tryd.results97, go_sem]) rfl ⟨rfl, rfl⟩
set_option maxHeartbeats 1000000 in
theorem esc_b (s : ByteArray) (p : Int) (b i : Nat) (w : World) (hs : (s.size : Int) ≤ 140737488351232) (hsc : ScB s p b w) (hi : (i : Int) + 1 < (s.size : Int)) (hc : bAt s (i + 1) = 92) :
    Calls Tryd.prog 97 #[.pointer (some ⟨b, 0, none⟩), .int .i64 (i : Int)] w fun e w' => EscOk 92 2 e ∧ w' = w := by
  have x0 := hsc.s
  have hx : ∀ h, ((s[i + 1]'h).toNat : Int) = 92 := fun h => by rw [bAt_eq, hc]; rfl
  replace hsc := Lib.hid hsc
  replace hc := Lib.hid hc
  go_enter Tryd.func97, Tryd.ntmps97
  go_wp2_with fail
  exact bodyPost_ret (v := .tuple #[.int .i32 92, .int .i64 2, .nilIface]) (by simp [results, Tryd.results97, go_sem]) rfl ⟨rfl, rfl⟩
set_option maxHeartbeats 1000000 in
theorem esc_s (s : ByteArray) (p : Int) (b i : Nat) (w : World) (hs : (s.size : Int) ≤ 140737488351232) (hsc : ScB s p b w) (hi : (i : Int) + 1 < (s.size : Int)) (hc : bAt s (i + 1) = 47) :
    Calls Tryd.prog 97 #[.pointer (some ⟨b, 0, none⟩), .int .i64 (i : Int)] w fun e w' => EscOk 47 2 e ∧ w' = w := by
  have x0 := hsc.s
  have hx : ∀ h, ((s[i + 1]'h).toNat : Int) = 47 := fun h => by rw [bAt_eq, hc]; rfl
  replace hsc := Lib.hid hsc
  replace hc := Lib.hid hc
  go_enter Tryd.func97, Tryd.ntmps97
  go_wp2_with fail
  exact bodyPost_ret (v := .tuple #[.int .i32 47, .int .i64 2, .nilIface]) (by simp [results, Tryd.results97, go_sem]) rfl ⟨rfl, rfl⟩
set_option maxHeartbeats 1000000 in
theorem esc_bb (s : ByteArray) (p : Int) (b i : Nat) (w : World) (hs : (s.size : Int) ≤ 140737488351232) (hsc : ScB s p b w) (hi : (i : Int) + 1 < (s.size : Int)) (hc : bAt s (i + 1) = 98) :
    Calls Tryd.prog 97 #[.pointer (some ⟨b, 0, none⟩), .int .i64 (i : Int)] w fun e w' => EscOk 8 2 e ∧ w' = w := by
  have x0 := hsc.s
  have hx : ∀ h, ((s[i + 1]'h).toNat : Int) = 98 := fun h => by rw [bAt_eq, hc]; rfl
  replace hsc := Lib.hid hsc
  replace hc := Lib.hid hc
  go_enter Tryd.func97, Tryd.ntmps97
  go_wp2_with fail
  exact bodyPost_ret (v := .tuple #[.int .i32 8, .int .i64 2, .nilIface]) (by simp [results, Tryd.results97, go_sem]) rfl ⟨rfl, rfl⟩
set_option maxHeartbeats 1000000 in
theorem esc_ff (s : ByteArray) (p : Int) (b i : Nat) (w : World) (hs : (s.size : Int) ≤ 140737488351232) (hsc : ScB s p b w) (hi : (i : Int) + 1 < (s.size : Int)) (hc : bAt s (i + 1) = 102) :
    Calls Tryd.prog 97 #[.pointer (some ⟨b, 0, none⟩), .int .i64 (i : Int)] w fun e w' => EscOk 12 2 e ∧ w' = w := by
  have x0 := hsc.s
  have hx : ∀ h, ((s[i + 1]'h).toNat : Int) = 102 := fun h => by rw [bAt_eq, hc]; rfl
  replace hsc := Lib.hid hsc
  replace hc := Lib.hid hc
  go_enter Tryd.func97, Tryd.ntmps97
  go_wp2_with fail
  exact bodyPost_ret (v := .tuple #[.int .i32 12, .int .i64 2, .nilIface]) (by simp [results, Tryd.results97, go_sem]) rfl ⟨rfl, rfl⟩
set_option maxHeartbeats 1000000 in
theorem esc_nn (s : ByteArray) (p : Int) (b i : Nat) (w : World) (hs : (s.size : Int) ≤ 140737488351232) (hsc : ScB s p b w) (hi : (i : Int) + 1 < (s.size : Int)) (hc : bAt s (i + 1) = 110) :
    Calls Tryd.prog 97 #[.pointer (some ⟨b, 0, none⟩), .int .i64 (i : Int)] w fun e w' => EscOk 10 2 e ∧ w' = w := by
  have x0 := hsc.s
  have hx : ∀ h, ((s[i + 1]'h).toNat : Int) = 110 := fun h => by rw [bAt_eq, hc]; rfl
  replace hsc := Lib.hid hsc
  replace hc := Lib.hid hc
  go_enter Tryd.func97, Tryd.ntmps97
  go_wp2_with fail
  exact bodyPost_ret (v := .tuple #[.int .i32 10, .int .i64 2, .nilIface]) (by simp [results, Tryd.results97, go_sem]) rfl ⟨rfl, rfl⟩
set_option maxHeartbeats 1000000 in
theorem esc_rr (s : ByteArray) (p : Int) (b i : Nat) (w : World) (hs : (s.size : Int) ≤ 140737488351232) (hsc : ScB s p b w) (hi : (i : Int) + 1 < (s.size : Int)) (hc : bAt s (i + 1) = 114) :
    Calls Tryd.prog 97 #[.pointer (some ⟨b, 0, none⟩), .int .i64 (i : Int)] w fun e w' => EscOk 13 2 e ∧ w' = w := by
  have x0 := hsc.s
  have hx : ∀ h, ((s[i + 1]'h).toNat : Int) = 114 := fun h => by rw [bAt_eq, hc]; rfl
  replace hsc := Lib.hid hsc
  replace hc := Lib.hid hc
  go_enter Tryd.func97, Tryd.ntmps97
  go_wp2_with fail
  exact bodyPost_ret (v := .tuple #[.int .i32 13, .int .i64 2, .nilIface]) (by simp [results, Tryd.results97, go_sem]) rfl ⟨rfl, rfl⟩
set_option maxHeartbeats 1000000 in
theorem esc_tt (s : ByteArray) (p : Int) (b i : Nat) (w : World) (hs : (s.size : Int) ≤ 140737488351232) (hsc : ScB s p b w) (hi : (i : Int) + 1 < (s.size : Int)) (hc : bAt s (i + 1) = 116) :
    Calls Tryd.prog 97 #[.pointer (some ⟨b, 0, none⟩), .int .i64 (i : Int)] w fun e w' => EscOk 9 2 e ∧ w' = w := by
  have x0 := hsc.s
  have hx : ∀ h, ((s[i + 1]'h).toNat : Int) = 116 := fun h => by rw [bAt_eq, hc]; rfl
  replace hsc := Lib.hid hsc
  replace hc := Lib.hid hc
  go_enter Tryd.func97, Tryd.ntmps97
  go_wp2_with fail
  exact bodyPost_ret (v := .tuple #[.int .i32 9, .int .i64 2, .nilIface]) (by simp [results, Tryd.results97, go_sem]) rfl ⟨rfl, rfl⟩
/-- No letter of an escape. -/
def NoLet (c : Nat) : Prop := c ≠ 34 ∧ c ≠ 92 ∧ c ≠ 47 ∧ c ≠ 98 ∧ c ≠ 102 ∧ c ≠ 110 ∧ c ≠ 114 ∧ c ≠ 116
set_option maxHeartbeats 1000000 in
set_option maxRecDepth 100000 in
theorem esc_six (s : ByteArray) (p : Int) (b i x : Nat) (w : World) (hs : (s.size : Int) ≤ 140737488351232) (hsc : ScB s p b w) (hi : (i : Int) + 1 < (s.size : Int)) (hc : NoLet (bAt s (i + 1))) (hx6 : hexAt s i = x) (hxl : x < 65536) (hsn : scalarN x = true) :
    Calls Tryd.prog 97 #[.pointer (some ⟨b, 0, none⟩), .int .i64 (i : Int)] w fun e w' => EscOk x 6 e ∧ w' = w := by
  have hlt : x < 65536 ∧ 0 < max (Lib.runeLen (x : Int)) 0 := by
    have := scalarN_iff.1 hsn
    refine ⟨hxl, ?_⟩
    unfold Lib.runeLen
    repeat' split
    all_goals omega
  have H1 := fun w h => hex_calls s p b i w hs h (by omega)
  rw [hx6, hexR, if_pos hlt.1] at H1
  have W := fun w => Width_calls (x : Int) w
  obtain ⟨hl1, hl2⟩ := hlt
  clear hxl
  generalize max (Lib.runeLen (x : Int)) 0 = n at *
  replace H1 := Lib.hid H1
  replace W := Lib.hid W
  replace hsn := Lib.hid hsn
  replace hx6 := Lib.hid hx6
  have x0 := hsc.s
  have hx : ∀ h, ((s[i + 1]'h).toNat : Int) = (bAt s (i + 1) : Int) := byte_at s _
  unfold NoLet at hc
  have n34 : ((bAt s (i + 1) : Int) == 34) = false := by simp; omega
  have n92 : ((bAt s (i + 1) : Int) == 92) = false := by simp; omega
  have n47 : ((bAt s (i + 1) : Int) == 47) = false := by simp; omega
  have n98 : ((bAt s (i + 1) : Int) == 98) = false := by simp; omega
  have n102 : ((bAt s (i + 1) : Int) == 102) = false := by simp; omega
  have n110 : ((bAt s (i + 1) : Int) == 110) = false := by simp; omega
  have n114 : ((bAt s (i + 1) : Int) == 114) = false := by simp; omega
  have n116 : ((bAt s (i + 1) : Int) == 116) = false := by simp; omega
  replace hc := Lib.hid hc
  replace hsc := Lib.hid hsc
  go_enter Tryd.func97, Tryd.ntmps97
  go_wp2_with fail
  refine (H1.out _ hsc.out).mono ?_
  rintro e w1 ⟨rfl, rfl⟩
  clear hx n34 n92 n47 n98 n102 n110 n114 n116
  go_wp2_with fail
  refine (W.out _).mono ?_
  rintro e w1 ⟨rfl, rfl⟩
  go_wp2_with fail
  exact bodyPost_ret (v := .tuple #[.int .i32 (x : Int), .int .i64 6, .nilIface]) (by simp [results, Tryd.results97, go_sem]) rfl ⟨rfl, rfl⟩

set_option maxHeartbeats 1000000 in
set_option maxRecDepth 100000 in
theorem esc_none {A : Nat → Addr} {B : Nat} (s : ByteArray) (p : Int) (b i : Nat) (w : World) (hE : Env A B SJ w) (hs : (s.size : Int) ≤ 140737488351232) (hsc : ScB s p b w) (hi : (i : Int) + 1 < (s.size : Int)) (hc : NoLet (bAt s (i + 1))) (hx6 : ¬ hexAt s i < 65536) :
    Calls Tryd.prog 97 #[.pointer (some ⟨b, 0, none⟩), .int .i64 (i : Int)] w fun e w' => EscBad A 2 i w e w' ∧ Below w.heap.size w w' := by
  have H1 := fun w h => hex_calls s p b i w hs h (by omega)
  rw [hexR, if_neg hx6] at H1
  replace H1 := Lib.hid H1
  replace hx6 := Lib.hid hx6
  have e8 := hE.e2
  have x0 := hsc.s
  have hx : ∀ h, ((s[i + 1]'h).toNat : Int) = (bAt s (i + 1) : Int) := byte_at s _
  unfold NoLet at hc
  have n34 : ((bAt s (i + 1) : Int) == 34) = false := by simp; omega
  have n92 : ((bAt s (i + 1) : Int) == 92) = false := by simp; omega
  have n47 : ((bAt s (i + 1) : Int) == 47) = false := by simp; omega
  have n98 : ((bAt s (i + 1) : Int) == 98) = false := by simp; omega
  have n102 : ((bAt s (i + 1) : Int) == 102) = false := by simp; omega
  have n110 : ((bAt s (i + 1) : Int) == 110) = false := by simp; omega
  have n114 : ((bAt s (i + 1) : Int) == 114) = false := by simp; omega
  have n116 : ((bAt s (i + 1) : Int) == 116) = false := by simp; omega
  replace hc := Lib.hid hc
  replace hsc := Lib.hid hsc
  go_enter Tryd.func97, Tryd.ntmps97
  go_wp2_with fail
  refine (H1.out _ hsc.out).mono ?_
  rintro e w1 ⟨rfl, rfl⟩
  clear hx n34 n92 n47 n98 n102 n110 n114 n116
  go_wp2_with fail
  have hb9 := Below.refl w1.heap.size w1
  have e9 := (hE.next hb9).e2
  (go_wp2_with fail; repeat (any_goals (go_quiet (fail); go_wp2_with fail)))
  refine (fault_calls _ _ _ _).mono ?_
  rintro e w2 ⟨g, hg, rfl, hat, hb⟩
  have hb2 : Below w1.heap.size w1 w2 := bcall (by repeat (first | assumption | exact Below.refl _ _ | apply Below.drew | apply below_drewN | apply balloc | (refine Below.setCell ?_ (by first | omega | (simp <;> omega)) _))) hb
  have hg2 : w1.heap.size ≤ g := Nat.le_trans (hb9.size) (by first | exact hg | (simp at hg; omega))
  clear hb
  (go_wp2_with fail; repeat (any_goals (go_quiet (fail); go_wp2_with fail)))
  exact bodyPost_ret (v := .tuple #[.int .i32 0, .int .i64 0, .iface 34 (.pointer (some ⟨g, 0, none⟩))]) (by simp [results, Tryd.results97, go_sem]) rfl ⟨⟨g, hg2, rfl, hat⟩, (by repeat (first | assumption | exact Below.refl _ _ | apply Below.drew | apply below_drewN | apply balloc | (refine Below.setCell ?_ (by first | omega | (simp <;> omega)) _)))⟩
set_option maxHeartbeats 1000000 in
set_option maxRecDepth 100000 in
theorem esc_end {A : Nat → Addr} {B : Nat} (s : ByteArray) (p : Int) (b i : Nat) (w : World) (hE : Env A B SJ w) (hs : (s.size : Int) ≤ 140737488351232) (hsc : ScB s p b w) (hi : (s.size : Int) ≤ (i : Int) + 1) (hi2 : (i : Int) ≤ (s.size : Int)) (hx6 : ¬ hexAt s i < 65536) :
    Calls Tryd.prog 97 #[.pointer (some ⟨b, 0, none⟩), .int .i64 (i : Int)] w fun e w' => EscBad A 2 i w e w' ∧ Below w.heap.size w w' := by
  have H1 := fun w h => hex_calls s p b i w hs h (by omega)
  rw [hexR, if_neg hx6] at H1
  replace H1 := Lib.hid H1
  replace hx6 := Lib.hid hx6
  have x0 := hsc.s
  have e8 := hE.e2
  replace hsc := Lib.hid hsc
  go_enter Tryd.func97, Tryd.ntmps97
  go_wp2_with fail
  refine (H1.out _ hsc.out).mono ?_
  rintro e w1 ⟨rfl, rfl⟩
  go_wp2_with fail
  have hb9 := Below.refl w1.heap.size w1
  have e9 := (hE.next hb9).e2
  (go_wp2_with fail; repeat (any_goals (go_quiet (fail); go_wp2_with fail)))
  refine (fault_calls _ _ _ _).mono ?_
  rintro e w2 ⟨g, hg, rfl, hat, hb⟩
  have hb2 : Below w1.heap.size w1 w2 := bcall (by repeat (first | assumption | exact Below.refl _ _ | apply Below.drew | apply below_drewN | apply balloc | (refine Below.setCell ?_ (by first | omega | (simp <;> omega)) _))) hb
  have hg2 : w1.heap.size ≤ g := Nat.le_trans (hb9.size) (by first | exact hg | (simp at hg; omega))
  clear hb
  (go_wp2_with fail; repeat (any_goals (go_quiet (fail); go_wp2_with fail)))
  exact bodyPost_ret (v := .tuple #[.int .i32 0, .int .i64 0, .iface 34 (.pointer (some ⟨g, 0, none⟩))]) (by simp [results, Tryd.results97, go_sem]) rfl ⟨⟨g, hg2, rfl, hat⟩, (by repeat (first | assumption | exact Below.refl _ _ | apply Below.drew | apply below_drewN | apply balloc | (refine Below.setCell ?_ (by first | omega | (simp <;> omega)) _)))⟩

set_option maxHeartbeats 1000000 in
set_option maxRecDepth 100000 in
theorem esc_pair {A : Nat → Addr} {B : Nat} (s : ByteArray) (p : Int) (b i x y : Nat) (w : World) (hE : Env A B SJ w) (hs : (s.size : Int) ≤ 140737488351232) (hsc : ScB s p b w) (hi : (i : Int) + 1 < (s.size : Int)) (hc : NoLet (bAt s (i + 1))) (hx6 : hexAt s i = x) (hxl : x < 65536) (hsn : ¬ scalarN x = true)
    (hy : (if hexAt s (i + 6) < 65536 then hexAt s (i + 6) else 0) = y) (h1 : x < 56320) (h2 : 56320 ≤ y) (h3 : y ≤ 57343) :
    Calls Tryd.prog 97 #[.pointer (some ⟨b, 0, none⟩), .int .i64 (i : Int)] w fun e w' => EscOk (65536 + (x - 55296) * 1024 + (y - 56320)) 12 e ∧ w' = w := by
  have hlt : 55296 ≤ x ∧ max (Lib.runeLen (x : Int)) 0 = 0 := by
    rw [scalarN_iff] at hsn
    refine ⟨by omega, ?_⟩
    unfold Lib.runeLen
    repeat' split
    all_goals omega
  obtain ⟨hl1, hl2⟩ := hlt
  have H1 := fun w h => hex_calls s p b i w hs h (by omega)
  have H2 := fun w h => hex_calls s p b (i + 6) w hs h (by omega)
  rw [hx6, hexR, if_pos hxl] at H1
  have W := fun w => Width_calls (x : Int) w
  rw [hl2] at W
  have H2 : ∀ w, ScB s p b w → Calls Tryd.prog 110 #[.pointer (some ⟨b, 0, none⟩), .int .i64 ((i : Int) + 6)] w fun e w' => (∃ ok, e = .returned (.tuple #[.int .i32 (y : Int), .bool ok])) ∧ w' = w := fun w h => by
    refine (H2 w h).mono ?_
    rintro e w' ⟨rfl, rfl⟩
    refine ⟨?_, rfl⟩
    unfold hexR
    by_cases h6 : hexAt s (i + 6) < 65536
    · rw [if_pos h6] at hy ⊢; rw [hy]; exact ⟨_, rfl⟩
    · rw [if_neg h6] at hy ⊢; rw [← hy]; exact ⟨_, rfl⟩
  have P := fun w => Pair_ok x y w hl1 h1 h2 h3
  replace H1 := Lib.hid H1
  replace H2 := Lib.hid H2
  replace W := Lib.hid W
  replace P := Lib.hid P
  clear hxl
  replace hsn := Lib.hid hsn
  replace hx6 := Lib.hid hx6
  replace hy := Lib.hid hy
  replace hl2 := Lib.hid hl2
  have e8 := hE.e1
  have x0 := hsc.s
  have hx : ∀ h, ((s[i + 1]'h).toNat : Int) = (bAt s (i + 1) : Int) := byte_at s _
  unfold NoLet at hc
  have n34 : ((bAt s (i + 1) : Int) == 34) = false := by simp; omega
  have n92 : ((bAt s (i + 1) : Int) == 92) = false := by simp; omega
  have n47 : ((bAt s (i + 1) : Int) == 47) = false := by simp; omega
  have n98 : ((bAt s (i + 1) : Int) == 98) = false := by simp; omega
  have n102 : ((bAt s (i + 1) : Int) == 102) = false := by simp; omega
  have n110 : ((bAt s (i + 1) : Int) == 110) = false := by simp; omega
  have n114 : ((bAt s (i + 1) : Int) == 114) = false := by simp; omega
  have n116 : ((bAt s (i + 1) : Int) == 116) = false := by simp; omega
  replace hc := Lib.hid hc
  replace hsc := Lib.hid hsc
  go_enter Tryd.func97, Tryd.ntmps97
  go_wp2_with fail
  refine (H1.out _ hsc.out).mono ?_
  rintro e w1 ⟨rfl, rfl⟩
  clear hx n34 n92 n47 n98 n102 n110 n114 n116
  go_wp2_with fail
  refine (W.out _).mono ?_
  rintro e w2 ⟨rfl, rfl⟩
  go_wp2_with fail
  refine (H2.out _ hsc.out).mono ?_
  rintro e w3 ⟨⟨ok, rfl⟩, rfl⟩
  go_wp2_with fail
  refine (P.out _).mono ?_
  rintro e w4 ⟨rfl, rfl⟩
  go_wp2_with fail
  exact bodyPost_ret (v := .tuple #[.int .i32 ((65536 + (x - 55296) * 1024 + (y - 56320) : Nat) : Int), .int .i64 12, .nilIface]) (by simp [results, Tryd.results97, go_sem]) rfl ⟨rfl, rfl⟩

set_option maxHeartbeats 1000000 in
set_option maxRecDepth 100000 in
theorem esc_nopair {A : Nat → Addr} {B : Nat} (s : ByteArray) (p : Int) (b i x y : Nat) (w : World) (hE : Env A B SJ w) (hs : (s.size : Int) ≤ 140737488351232) (hsc : ScB s p b w) (hi : (i : Int) + 1 < (s.size : Int)) (hc : NoLet (bAt s (i + 1))) (hx6 : hexAt s i = x) (hxl : x < 65536) (hsn : ¬ scalarN x = true)
    (hy : (if hexAt s (i + 6) < 65536 then hexAt s (i + 6) else 0) = y) (h1 : ¬ (x < 56320 ∧ 56320 ≤ y ∧ y ≤ 57343)) :
    Calls Tryd.prog 97 #[.pointer (some ⟨b, 0, none⟩), .int .i64 (i : Int)] w fun e w' => EscBad A 1 i w e w' ∧ Below w.heap.size w w' := by
  have hlt : 55296 ≤ x ∧ max (Lib.runeLen (x : Int)) 0 = 0 := by
    rw [scalarN_iff] at hsn
    refine ⟨by omega, ?_⟩
    unfold Lib.runeLen
    repeat' split
    all_goals omega
  obtain ⟨hl1, hl2⟩ := hlt
  have H1 := fun w h => hex_calls s p b i w hs h (by omega)
  have H2 := fun w h => hex_calls s p b (i + 6) w hs h (by omega)
  rw [hx6, hexR, if_pos hxl] at H1
  have W := fun w => Width_calls (x : Int) w
  rw [hl2] at W
  have H2 : ∀ w, ScB s p b w → Calls Tryd.prog 110 #[.pointer (some ⟨b, 0, none⟩), .int .i64 ((i : Int) + 6)] w fun e w' => (∃ ok, e = .returned (.tuple #[.int .i32 (y : Int), .bool ok])) ∧ w' = w := fun w h => by
    refine (H2 w h).mono ?_
    rintro e w' ⟨rfl, rfl⟩
    refine ⟨?_, rfl⟩
    unfold hexR
    by_cases h6 : hexAt s (i + 6) < 65536
    · rw [if_pos h6] at hy ⊢; rw [hy]; exact ⟨_, rfl⟩
    · rw [if_neg h6] at hy ⊢; rw [← hy]; exact ⟨_, rfl⟩
  have P := fun w hE => Pair_bad (A := A) (B := B) x y w hE hl1 h1
  replace H1 := Lib.hid H1
  replace H2 := Lib.hid H2
  replace W := Lib.hid W
  replace P := Lib.hid P
  clear hxl
  replace hsn := Lib.hid hsn
  replace hx6 := Lib.hid hx6
  replace hy := Lib.hid hy
  replace hl2 := Lib.hid hl2
  have e8 := hE.e1
  have x0 := hsc.s
  have hx : ∀ h, ((s[i + 1]'h).toNat : Int) = (bAt s (i + 1) : Int) := byte_at s _
  unfold NoLet at hc
  have n34 : ((bAt s (i + 1) : Int) == 34) = false := by simp; omega
  have n92 : ((bAt s (i + 1) : Int) == 92) = false := by simp; omega
  have n47 : ((bAt s (i + 1) : Int) == 47) = false := by simp; omega
  have n98 : ((bAt s (i + 1) : Int) == 98) = false := by simp; omega
  have n102 : ((bAt s (i + 1) : Int) == 102) = false := by simp; omega
  have n110 : ((bAt s (i + 1) : Int) == 110) = false := by simp; omega
  have n114 : ((bAt s (i + 1) : Int) == 114) = false := by simp; omega
  have n116 : ((bAt s (i + 1) : Int) == 116) = false := by simp; omega
  replace hc := Lib.hid hc
  replace hsc := Lib.hid hsc
  go_enter Tryd.func97, Tryd.ntmps97
  go_wp2_with fail
  refine (H1.out _ hsc.out).mono ?_
  rintro e w1 ⟨rfl, rfl⟩
  clear hx n34 n92 n47 n98 n102 n110 n114 n116
  go_wp2_with fail
  refine (W.out _).mono ?_
  rintro e w2 ⟨rfl, rfl⟩
  go_wp2_with fail
  refine (H2.out _ hsc.out).mono ?_
  rintro e w3 ⟨⟨ok, rfl⟩, rfl⟩
  go_wp2_with fail
  replace h1 := Lib.hid h1
  refine (P.out _ (hE.sub (by decide))).mono ?_
  rintro e w4 ⟨rfl, hb9⟩
  have e9 := (hE.next hb9).e1
  (go_wp2_with fail; repeat (any_goals (go_quiet (fail); go_wp2_with fail)))
  refine (fault_calls _ _ _ _).mono ?_
  rintro e w2 ⟨g, hg, rfl, hat, hb⟩
  have hb2 : Below w3.heap.size w3 w2 := bcall (by repeat (first | assumption | exact Below.refl _ _ | apply Below.drew | apply below_drewN | apply balloc | (refine Below.setCell ?_ (by first | omega | (simp <;> omega)) _))) hb
  have hg2 : w3.heap.size ≤ g := Nat.le_trans (hb9.size) (by first | exact hg | (simp at hg; omega))
  clear hb
  (go_wp2_with fail; repeat (any_goals (go_quiet (fail); go_wp2_with fail)))
  exact bodyPost_ret (v := .tuple #[.int .i32 0, .int .i64 0, .iface 34 (.pointer (some ⟨g, 0, none⟩))]) (by simp [results, Tryd.results97, go_sem]) rfl ⟨⟨g, hg2, rfl, hat⟩, (by repeat (first | assumption | exact Below.refl _ _ | apply Below.drew | apply below_drewN | apply balloc | (refine Below.setCell ?_ (by first | omega | (simp <;> omega)) _)))⟩
/-- What escape answers. -/
def EscR (A : Nat → Addr) (E : Nat × Nat × Nat) (i : Nat) (w : World) (e : Ending) (w' : World) : Prop := if E.1 = 0 then EscOk E.2.1 E.2.2 e else EscBad A E.1 i w e w'
theorem escape_calls {A : Nat → Addr} {B : Nat} (s : ByteArray) (p : Int) (b i : Nat) (w : World) (hE : Env A B SJ w) (hs : s.size ≤ 140737488351232) (hsc : ScB s p b w) (hi : i < s.size) :
    Calls Tryd.prog 97 #[.pointer (some ⟨b, 0, none⟩), .int .i64 (i : Int)] w fun e w' => EscR A (escAt s i) i w e w' ∧ Below w.heap.size w w' := by
  have hs' : (s.size : Int) ≤ 140737488351232 := by omega
  have one : ∀ (r n : Nat), escAt s i = (0, r, n) → Calls Tryd.prog 97 #[.pointer (some ⟨b, 0, none⟩), .int .i64 (i : Int)] w (fun e w' => EscOk r n e ∧ w' = w) → Calls Tryd.prog 97 #[.pointer (some ⟨b, 0, none⟩), .int .i64 (i : Int)] w fun e w' => EscR A (escAt s i) i w e w' ∧ Below w.heap.size w w' := by
    intro r n he h
    refine h.mono ?_
    rintro e w' ⟨h1, rfl⟩
    rw [he]
    exact ⟨by unfold EscR; rw [if_pos rfl]; exact h1, Below.refl _ _⟩
  have two : ∀ (k r n : Nat), escAt s i = (k + 1, r, n) → Calls Tryd.prog 97 #[.pointer (some ⟨b, 0, none⟩), .int .i64 (i : Int)] w (fun e w' => EscBad A (k + 1) i w e w' ∧ Below w.heap.size w w') → Calls Tryd.prog 97 #[.pointer (some ⟨b, 0, none⟩), .int .i64 (i : Int)] w fun e w' => EscR A (escAt s i) i w e w' ∧ Below w.heap.size w w' := by
    intro k r n he h
    refine h.mono ?_
    rintro e w' ⟨h1, hb⟩
    rw [he]
    exact ⟨by unfold EscR; rw [if_neg (by simp)]; exact h1, hb⟩
  have hle := hexAt_le s i
  by_cases hin : i + 1 < s.size
  · have hin' : (i : Int) + 1 < (s.size : Int) := by omega
    by_cases c1 : bAt s (i + 1) = 34 ∨ bAt s (i + 1) = 92 ∨ bAt s (i + 1) = 47
    · rcases c1 with h | h | h
      · exact one 34 2 (by unfold escAt; simp only [h]; rfl) (esc_q s p b i w hs' hsc hin' h)
      · exact one 92 2 (by unfold escAt; simp only [h]; rfl) (esc_b s p b i w hs' hsc hin' h)
      · exact one 47 2 (by unfold escAt; simp only [h]; rfl) (esc_s s p b i w hs' hsc hin' h)
    by_cases c2 : bAt s (i + 1) = 98
    · exact one 8 2 (by unfold escAt; simp only [c2]; rfl) (esc_bb s p b i w hs' hsc hin' c2)
    by_cases c3 : bAt s (i + 1) = 102
    · exact one 12 2 (by unfold escAt; simp only [c3]; rfl) (esc_ff s p b i w hs' hsc hin' c3)
    by_cases c4 : bAt s (i + 1) = 110
    · exact one 10 2 (by unfold escAt; simp only [c4]; rfl) (esc_nn s p b i w hs' hsc hin' c4)
    by_cases c5 : bAt s (i + 1) = 114
    · exact one 13 2 (by unfold escAt; simp only [c5]; rfl) (esc_rr s p b i w hs' hsc hin' c5)
    by_cases c6 : bAt s (i + 1) = 116
    · exact one 9 2 (by unfold escAt; simp only [c6]; rfl) (esc_tt s p b i w hs' hsc hin' c6)
    have hno : NoLet (bAt s (i + 1)) := by unfold NoLet; omega
    have base : escAt s i = if 65536 ≤ hexAt s i then (2, 0, 0)
      else if scalarN (hexAt s i) = true then (0, hexAt s i, 6)
      else if hexAt s i < 56320 ∧ 56320 ≤ hexAt s (i + 6) ∧ hexAt s (i + 6) ≤ 57343 then (0, 65536 + (hexAt s i - 55296) * 1024 + (hexAt s (i + 6) - 56320), 12)
      else (1, 0, 0) := by
      conv => lhs; unfold escAt
      simp only
      rw [if_neg c1, if_neg c2, if_neg c3, if_neg c4, if_neg c5, if_neg c6]
    by_cases c7 : hexAt s i < 65536
    · rw [if_neg (by omega)] at base
      by_cases c8 : scalarN (hexAt s i) = true
      · rw [if_pos c8] at base
        exact one _ _ base (esc_six s p b i _ w hs' hsc hin' hno rfl c7 c8)
      · rw [if_neg c8] at base
        by_cases c9 : hexAt s i < 56320 ∧ 56320 ≤ hexAt s (i + 6) ∧ hexAt s (i + 6) ≤ 57343
        · rw [if_pos c9] at base
          exact one _ _ base (esc_pair s p b i _ _ w hE hs' hsc hin' hno rfl c7 c8 (by rw [if_pos (by omega)]) c9.1 c9.2.1 c9.2.2)
        · rw [if_neg c9] at base
          refine two 0 _ _ base (esc_nopair s p b i _ _ w hE hs' hsc hin' hno rfl c7 c8 rfl ?_)
          split
          · exact c9
          · omega
    · rw [if_pos (by omega)] at base
      exact two 1 _ _ base (esc_none s p b i w hE hs' hsc hin' hno c7)
  · have h0 : bAt s (i + 1) = 0 := bAt_ge s (i + 1) (by omega)
    have c7 : ¬ hexAt s i < 65536 := fun h => by have := (hexAt_ok h).1; omega
    have base : escAt s i = (2, 0, 0) := by
      conv => lhs; unfold escAt
      simp only
      rw [h0, if_neg (by decide), if_neg (by decide), if_neg (by decide), if_neg (by decide), if_neg (by decide), if_neg (by decide), if_pos (by omega)]
    exact two 1 _ _ base (esc_end s p b i w hE hs' hsc (by omega) (by omega) c7)

end Go.Proofs.YtnldhgkmbighkaaDoor
