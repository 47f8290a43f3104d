/- The reference's UTF-8 (layer 1): plain functions, and the walks. -/
import Derived.Test.YtnldhgkmbighkaaDoorScalars
import Derived.Lib.DecodeN
import Derived.Laws.BytesArg
namespace Go.Proofs.YtnldhgkmbighkaaDoor
open Go Go.RowKit

/-! ### On numbers -/
def rN (b : Nat) : Nat := if 240 ≤ b then 4 else if 224 ≤ b then 3 else if 192 ≤ b then 2 else 1
def rB (b : Nat) : Nat := if 240 ≤ b then b - 240 else if 224 ≤ b then b - 224 else if 192 ≤ b then b - 192 else b
def scalarN (r : Nat) : Bool := r < 55296 || (57344 ≤ r && r ≤ 1114111)
def encN (r : Nat) : List Nat :=
  if r < 128 then [r]
  else if r < 2048 then [192 + r / 64, 128 + r % 64]
  else if r < 65536 then [224 + r / 4096, 128 + r / 64 % 64, 128 + r % 64]
  else [240 + r / 262144, 128 + r / 4096 % 64, 128 + r / 64 % 64, 128 + r % 64]
def accB (b : Nat → Nat) : Nat → Nat
  | 0 => rB (b 0)
  | j + 1 => accB b j * 64 + b (j + 1) % 64
/-- The scalar that begins there by its encoding, and its bytes; (0, 0): none. n: how many bytes there are. -/
def refF (b : Nat → Nat) (n : Nat) : Nat × Nat :=
  if n < rN (b 0) then (0, 0)
  else if scalarN (accB b (rN (b 0) - 1)) = true ∧ encN (accB b (rN (b 0) - 1)) = (List.range (rN (b 0))).map b then (accB b (rN (b 0) - 1), rN (b 0))
  else (0, 0)
theorem enc4 {a x y z : Nat} (hx : x < 64) (hy : y < 64) (hz : z < 64) (h : 65536 ≤ a * 262144 + x * 4096 + y * 64 + z) : encN (a * 262144 + x * 4096 + y * 64 + z) = [240 + a, 128 + x, 128 + y, 128 + z] := by
  unfold encN
  rw [if_neg (by omega), if_neg (by omega), if_neg (by omega)]
  rw [show (a * 262144 + x * 4096 + y * 64 + z) / 262144 = a by omega, show (a * 262144 + x * 4096 + y * 64 + z) / 4096 % 64 = x by omega, show (a * 262144 + x * 4096 + y * 64 + z) / 64 % 64 = y by omega, show (a * 262144 + x * 4096 + y * 64 + z) % 64 = z by omega]
theorem enc3 {x y z : Nat} (hy : y < 64) (hz : z < 64) (h : 2048 ≤ x * 4096 + y * 64 + z) (h2 : x * 4096 + y * 64 + z < 65536) : encN (x * 4096 + y * 64 + z) = [224 + x, 128 + y, 128 + z] := by
  unfold encN
  rw [if_neg (by omega), if_neg (by omega), if_pos (by omega)]
  rw [show (x * 4096 + y * 64 + z) / 4096 = x by omega, show (x * 4096 + y * 64 + z) / 64 % 64 = y by omega, show (x * 4096 + y * 64 + z) % 64 = z by omega]
theorem enc2 {y z : Nat} (hz : z < 64) (h : 128 ≤ y * 64 + z) (h2 : y * 64 + z < 2048) : encN (y * 64 + z) = [192 + y, 128 + z] := by
  unfold encN
  rw [if_neg (by omega), if_pos (by omega)]
  rw [show (y * 64 + z) / 64 = y by omega, show (y * 64 + z) % 64 = z by omega]
theorem encN_len (r : Nat) : (encN r).length = if r < 128 then 1 else if r < 2048 then 2 else if r < 65536 then 3 else 4 := by
  unfold encN; repeat' split
  all_goals rfl
theorem err_pair {d : Nat × Nat} (h : d = (65533, 1)) : (if d.1 = 65533 ∧ d.2 < 2 then ((0, 0) : Nat × Nat) else d) = (0, 0) := by subst h; rfl
theorem ok_pair {r n : Nat} (h : 2 ≤ n ∨ r ≠ 65533) : (if (r, n).1 = 65533 ∧ (r, n).2 < 2 then ((0, 0) : Nat × Nat) else (r, n)) = (r, n) := by
  rw [if_neg (by simp only; omega)]
theorem split64 {b : Nat} (h : b < 256) : ∃ q x, b = 64 * q + x ∧ x < 64 ∧ q < 4 ∧ b % 64 = x ∧ b / 64 = q := ⟨b / 64, b % 64, by omega, by omega, by omega, rfl, rfl⟩
theorem refF_eq (b : Nat → Nat) (n : Nat) (hn : 1 ≤ n) (h0 : b 0 < 256) (h1 : b 1 < 256) (h2 : b 2 < 256) (h3 : b 3 < 256) :
    refF b n = if (Lib.decodeN n (b 0) (b 1) (b 2) (b 3)).1 = 65533 ∧ (Lib.decodeN n (b 0) (b 1) (b 2) (b 3)).2 < 2 then (0, 0) else Lib.decodeN n (b 0) (b 1) (b 2) (b 3) := by
  have c1 : (List.range 1).map b = [b 0] := by simp [List.range_succ]
  have c2 : (List.range 2).map b = [b 0, b 1] := by simp [List.range_succ]
  have c3 : (List.range 3).map b = [b 0, b 1, b 2] := by simp [List.range_succ]
  have c4 : (List.range 4).map b = [b 0, b 1, b 2, b 3] := by simp [List.range_succ]
  obtain ⟨q1, x, e1, hx, hq1, m1, d1⟩ := split64 h1
  obtain ⟨q2, y, e2, hy, hq2, m2, d2⟩ := split64 h2
  obtain ⟨q3, z, e3, hz, hq3, m3, d3⟩ := split64 h3
  unfold refF
  by_cases k4 : 240 ≤ b 0
  · obtain ⟨a, ea⟩ : ∃ a, b 0 = 240 + a := ⟨b 0 - 240, by omega⟩
    have e : rN (b 0) = 4 := by unfold rN; rw [if_pos k4]
    have ac : accB b (4 - 1) = a * 262144 + x * 4096 + y * 64 + z := by
      simp only [accB, rB, if_pos k4, m1, m2, m3]; omega
    rw [e, ac, c4]
    have dn : Lib.decodeN n (b 0) (b 1) (b 2) (b 3) = if a < 8 ∧ q1 = 2 ∧ q2 = 2 ∧ q3 = 2 ∧ 3 < n then (if a * 262144 + x * 4096 + y * 64 + z ≥ 65536 ∧ (a * 262144 + x * 4096 + y * 64 + z < 55296 ∨ (57344 ≤ a * 262144 + x * 4096 + y * 64 + z ∧ a * 262144 + x * 4096 + y * 64 + z ≤ 1114111)) then (a * 262144 + x * 4096 + y * 64 + z, 4) else (65533, 1)) else (65533, 1) := by
      unfold Lib.decodeN
      rw [if_neg (by omega), if_neg (by omega), if_neg (by omega), d1, d2, d3, m1, m2, m3]
      by_cases h8 : a < 8
      · rw [show b 0 % 8 = a by omega]
        by_cases hq : q1 = 2 ∧ q2 = 2 ∧ q3 = 2 ∧ 3 < n
        · rw [if_pos (show b 0 / 8 = 30 ∧ (1 < n ∧ q1 = 2) ∧ (2 < n ∧ q2 = 2) ∧ (3 < n ∧ q3 = 2) from ⟨by omega, ⟨by omega, hq.1⟩, ⟨by omega, hq.2.1⟩, hq.2.2.2, hq.2.2.1⟩), if_pos (show a < 8 ∧ q1 = 2 ∧ q2 = 2 ∧ q3 = 2 ∧ 3 < n from ⟨h8, hq⟩)]
        · rw [if_neg (fun h => hq ⟨h.2.1.2, h.2.2.1.2, h.2.2.2.2, h.2.2.2.1⟩), if_neg (fun h => hq h.2)]
      · rw [if_neg (fun h => h8 (by omega)), if_neg (fun h => h8 h.1)]
    rw [dn]
    generalize hr : a * 262144 + x * 4096 + y * 64 + z = r
    by_cases hn4 : n < 4
    · rw [if_pos hn4, err_pair (if_neg (fun h => by omega))]
    · rw [if_neg hn4]
      by_cases hall : a < 8 ∧ q1 = 2 ∧ q2 = 2 ∧ q3 = 2 ∧ 3 < n
      · rw [if_pos hall]
        by_cases hr2 : 65536 ≤ r ∧ r ≤ 1114111
        · rw [if_pos (show r ≥ 65536 ∧ (r < 55296 ∨ (57344 ≤ r ∧ r ≤ 1114111)) by omega), ok_pair (Or.inl (by omega)), if_pos]
          refine ⟨by simp [scalarN]; omega, ?_⟩
          rw [← hr, enc4 hx hy hz (by omega), ea, e1, e2, e3, hall.2.1, hall.2.2.1, hall.2.2.2.1]
        · rw [if_neg (show ¬ (r ≥ 65536 ∧ (r < 55296 ∨ (57344 ≤ r ∧ r ≤ 1114111))) by omega), err_pair rfl, if_neg]
          rintro ⟨hs, he⟩
          have hl := congrArg List.length he
          rw [encN_len] at hl
          simp only [scalarN, Bool.or_eq_true, Bool.and_eq_true, decide_eq_true_eq] at hs
          simp only [List.length_cons, List.length_nil] at hl
          repeat' split at hl
          all_goals omega
      · rw [if_neg hall, err_pair rfl, if_neg]
        rintro ⟨hs, he⟩
        have hl := congrArg List.length he
        rw [encN_len] at hl
        simp only [scalarN, Bool.or_eq_true, Bool.and_eq_true, decide_eq_true_eq] at hs
        simp only [List.length_cons, List.length_nil] at hl
        have hbig : 65536 ≤ r := by
          repeat' split at hl
          all_goals omega
        rw [← hr, enc4 hx hy hz (by omega)] at he
        simp only [List.cons.injEq, and_true] at he
        omega
  by_cases k3 : 224 ≤ b 0
  · obtain ⟨a, ea⟩ : ∃ a, b 0 = 224 + a := ⟨b 0 - 224, by omega⟩
    have e : rN (b 0) = 3 := by unfold rN; rw [if_neg k4, if_pos k3]
    have ac : accB b (3 - 1) = a * 4096 + x * 64 + y := by
      simp only [accB, rB, if_neg k4, if_pos k3, m1, m2]; omega
    rw [e, ac, c3]
    have dn : Lib.decodeN n (b 0) (b 1) (b 2) (b 3) = if q1 = 2 ∧ q2 = 2 ∧ 2 < n then (if a * 4096 + x * 64 + y ≥ 2048 ∧ (a * 4096 + x * 64 + y < 55296 ∨ (57344 ≤ a * 4096 + x * 64 + y ∧ a * 4096 + x * 64 + y ≤ 1114111)) then (a * 4096 + x * 64 + y, 3) else (65533, 1)) else (65533, 1) := by
      unfold Lib.decodeN
      rw [if_neg (by omega), if_neg (by omega), d1, d2, m1, m2, show b 0 % 16 = a by omega]
      by_cases hq : q1 = 2 ∧ q2 = 2 ∧ 2 < n
      · rw [if_pos ⟨by omega, ⟨by omega, hq.1⟩, hq.2.2, hq.2.1⟩, if_pos hq]
      · rw [if_neg (fun h => hq ⟨h.2.1.2, h.2.2.2, h.2.2.1⟩), if_neg (fun h => by omega), if_neg hq]
    rw [dn]
    generalize hr : a * 4096 + x * 64 + y = r
    by_cases hn3 : n < 3
    · rw [if_pos hn3, err_pair (if_neg (fun h => by omega))]
    · rw [if_neg hn3]
      by_cases hall : q1 = 2 ∧ q2 = 2 ∧ 2 < n
      · rw [if_pos hall]
        by_cases hr2 : 2048 ≤ r ∧ (r < 55296 ∨ 57344 ≤ r)
        · rw [if_pos (show r ≥ 2048 ∧ (r < 55296 ∨ (57344 ≤ r ∧ r ≤ 1114111)) by omega), ok_pair (Or.inl (by omega)), if_pos]
          refine ⟨by simp [scalarN]; omega, ?_⟩
          rw [← hr, enc3 hx hy (by omega) (by omega), ea, e1, e2, hall.1, hall.2.1]
        · rw [if_neg (show ¬ (r ≥ 2048 ∧ (r < 55296 ∨ (57344 ≤ r ∧ r ≤ 1114111))) by omega), err_pair rfl, if_neg]
          rintro ⟨hs, he⟩
          have hl := congrArg List.length he
          rw [encN_len] at hl
          simp only [scalarN, Bool.or_eq_true, Bool.and_eq_true, decide_eq_true_eq] at hs
          simp only [List.length_cons, List.length_nil] at hl
          repeat' split at hl
          all_goals omega
      · rw [if_neg hall, err_pair rfl, if_neg]
        rintro ⟨hs, he⟩
        have hl := congrArg List.length he
        rw [encN_len] at hl
        simp only [List.length_cons, List.length_nil] at hl
        have hbig : 2048 ≤ r := by
          repeat' split at hl
          all_goals omega
        rw [← hr, enc3 hx hy (by omega) (by omega)] at he
        simp only [List.cons.injEq, and_true] at he
        omega
  by_cases k2 : 192 ≤ b 0
  · obtain ⟨a, ea⟩ : ∃ a, b 0 = 192 + a := ⟨b 0 - 192, by omega⟩
    have e : rN (b 0) = 2 := by unfold rN; rw [if_neg k4, if_neg k3, if_pos k2]
    have ac : accB b (2 - 1) = a * 64 + x := by
      simp only [accB, rB, if_neg k4, if_neg k3, if_pos k2, m1]; omega
    rw [e, ac, c2]
    have dn : Lib.decodeN n (b 0) (b 1) (b 2) (b 3) = if q1 = 2 ∧ 1 < n then (if a * 64 + x ≥ 128 then (a * 64 + x, 2) else (65533, 1)) else (65533, 1) := by
      unfold Lib.decodeN
      rw [if_neg (by omega), d1, m1, show b 0 % 32 = a by omega]
      by_cases hq : q1 = 2 ∧ 1 < n
      · rw [if_pos ⟨by omega, hq.2, hq.1⟩, if_pos hq]
      · rw [if_neg (fun h => hq ⟨h.2.2, h.2.1⟩), if_neg (fun h => by omega), if_neg (fun h => by omega), if_neg hq]
    rw [dn]
    generalize hr : a * 64 + x = r
    by_cases hn2 : n < 2
    · rw [if_pos hn2, err_pair (if_neg (fun h => by omega))]
    · rw [if_neg hn2]
      by_cases hall : q1 = 2 ∧ 1 < n
      · rw [if_pos hall]
        by_cases hr2 : 128 ≤ r
        · rw [if_pos (show r ≥ 128 by omega), ok_pair (Or.inl (by omega)), if_pos]
          refine ⟨by simp [scalarN]; omega, ?_⟩
          rw [← hr, enc2 hx (by omega) (by omega), ea, e1, hall.1]
        · rw [if_neg (show ¬ r ≥ 128 by omega), err_pair rfl, if_neg]
          rintro ⟨hs, he⟩
          have hl := congrArg List.length he
          rw [encN_len] at hl
          simp only [List.length_cons, List.length_nil] at hl
          repeat' split at hl
          all_goals omega
      · rw [if_neg hall, err_pair rfl, if_neg]
        rintro ⟨hs, he⟩
        have hl := congrArg List.length he
        rw [encN_len] at hl
        simp only [List.length_cons, List.length_nil] at hl
        have hbig : 128 ≤ r := by
          repeat' split at hl
          all_goals omega
        rw [← hr, enc2 hx (by omega) (by omega)] at he
        simp only [List.cons.injEq, and_true] at he
        omega
  · have e : rN (b 0) = 1 := by unfold rN; rw [if_neg k4, if_neg k3, if_neg k2]
    have ac : accB b (1 - 1) = b 0 := by
      show rB (b 0) = b 0
      unfold rB; rw [if_neg k4, if_neg k3, if_neg k2]
    rw [e, ac, c1, if_neg (by omega)]
    by_cases k1 : b 0 < 128
    · have dn : Lib.decodeN n (b 0) (b 1) (b 2) (b 3) = (b 0, 1) := by unfold Lib.decodeN; rw [if_pos k1]
      rw [dn, ok_pair (Or.inr (by omega)), if_pos]
      exact ⟨by simp [scalarN]; omega, by unfold encN; rw [if_pos k1]⟩
    · have dn : Lib.decodeN n (b 0) (b 1) (b 2) (b 3) = (65533, 1) := by
        unfold Lib.decodeN; rw [if_neg k1, if_neg (by omega), if_neg (by omega), if_neg (by omega)]
      rw [dn, err_pair rfl, if_neg]
      rintro ⟨hs, he⟩
      have hl : (encN (b 0)).length = 1 := congrArg List.length he
      rw [encN_len] at hl
      repeat' split at hl
      all_goals omega

/-! ### The walks -/
/-- Byte i of a text; 0 behind its end. -/
def bAt (s : ByteArray) (i : Nat) : Nat := if h : i < s.size then (s[i]'h).toNat else 0
theorem bAt_eq (s : ByteArray) (i : Nat) (h : i < s.size) : (s[i]'h).toNat = bAt s i := by unfold bAt; rw [dif_pos h]
theorem bAt_lt (s : ByteArray) (i : Nat) : bAt s i < 256 := by
  unfold bAt; split
  · exact UInt8.toNat_lt _
  · omega
set_option maxRecDepth 100000 in
theorem Scalar_calls (r : Nat) (w : World) (h : r < 2147483648) :
    Calls Tryd.prog 90 #[.int .i32 (r : Int)] w fun e w' => e = .returned (.bool (scalarN r)) ∧ w' = w := by
  go_enter Tryd.func90, Tryd.ntmps90
  go_wp2
  all_goals
    go_ret
    exact ⟨ret_bool (by rw [Bool.eq_iff_iff]; simp [scalarN] <;> omega), rfl⟩
def encS (r : Nat) : ByteArray := ⟨((encN r).map UInt8.ofNat).toArray⟩
theorem conv_lit (w : World) (xs : List Int) (n c : Nat) (hn : xs.length = n) (cs : Array Value) (hcs : cs = (xs.map (Value.int .u8)).toArray) :
    (convert 29 9 (.slice (some ⟨w.heap.size, 0, none⟩) n c)).run Tryd.prog (w.alloc (.cells cs 5)) = .ok (.string (strOfNums xs)) (w.alloc (.cells cs 5)) :=
  run_convert_bytes_arg _ _ 5 Tryd.underlying29 Tryd.underlying5 _ 0 n c xs hn (fun i hi => by
    subst hcs
    rw [Nat.zero_add]
    refine cellB (heap_alloc_new w _) i ?_
    have hi' : i < xs.length := by omega
    simp [hi', List.getD]) _ Tryd.underlying9
@[go_sem] theorem conv_lit1 (w : World) (a : Int) (c : Nat) :
    (convert 29 9 (.slice (some ⟨w.heap.size, 0, none⟩) 1 c)).run Tryd.prog (w.alloc (.cells #[.int .u8 a] 5)) = .ok (.string (strOfNums [a])) (w.alloc (.cells #[.int .u8 a] 5)) := conv_lit w [a] 1 c rfl _ rfl
@[go_sem] theorem conv_lit2 (w : World) (a b : Int) (c : Nat) :
    (convert 29 9 (.slice (some ⟨w.heap.size, 0, none⟩) 2 c)).run Tryd.prog (w.alloc (.cells #[.int .u8 a, .int .u8 b] 5)) = .ok (.string (strOfNums [a, b])) (w.alloc (.cells #[.int .u8 a, .int .u8 b] 5)) := conv_lit w [a, b] 2 c rfl _ rfl
@[go_sem] theorem conv_lit3 (w : World) (a b d : Int) (c : Nat) :
    (convert 29 9 (.slice (some ⟨w.heap.size, 0, none⟩) 3 c)).run Tryd.prog (w.alloc (.cells #[.int .u8 a, .int .u8 b, .int .u8 d] 5)) = .ok (.string (strOfNums [a, b, d])) (w.alloc (.cells #[.int .u8 a, .int .u8 b, .int .u8 d] 5)) := conv_lit w [a, b, d] 3 c rfl _ rfl
@[go_sem] theorem conv_lit4 (w : World) (a b d e : Int) (c : Nat) :
    (convert 29 9 (.slice (some ⟨w.heap.size, 0, none⟩) 4 c)).run Tryd.prog (w.alloc (.cells #[.int .u8 a, .int .u8 b, .int .u8 d, .int .u8 e] 5)) = .ok (.string (strOfNums [a, b, d, e])) (w.alloc (.cells #[.int .u8 a, .int .u8 b, .int .u8 d, .int .u8 e] 5)) := conv_lit w [a, b, d, e] 4 c rfl _ rfl
theorem encS_of {r : Nat} {xs : List Int} (h : xs = (encN r).map Int.ofNat) : strOfNums xs = encS r := by
  subst h
  unfold strOfNums encS
  congr 2
  simp
theorem encJ1 {n : Nat} {r : Int} (hr : (n : Int) = r) (h1 : r < 128) : [r] = (encN n).map Int.ofNat := by
  subst hr; unfold encN; rw [if_pos (by omega)]; simp
theorem encJ2 {n : Nat} {r : Int} (hr : (n : Int) = r) (h1 : 128 ≤ r) (h2 : r < 2048) : [192 + r / 64, 128 + r % 64] = (encN n).map Int.ofNat := by
  subst hr; unfold encN; rw [if_neg (by omega), if_pos (by omega)]; simp
theorem encJ3 {n : Nat} {r : Int} (hr : (n : Int) = r) (h1 : 2048 ≤ r) (h2 : r < 65536) : [224 + r / 4096, 128 + r / 64 % 64, 128 + r % 64] = (encN n).map Int.ofNat := by
  subst hr; unfold encN; rw [if_neg (by omega), if_neg (by omega), if_pos (by omega)]; simp
theorem encJ4 {n : Nat} {r : Int} (hr : (n : Int) = r) (h1 : 65536 ≤ r) : [240 + r / 262144, 128 + r / 4096 % 64, 128 + r / 64 % 64, 128 + r % 64] = (encN n).map Int.ofNat := by
  subst hr; unfold encN; rw [if_neg (by omega), if_neg (by omega), if_neg (by omega)]; simp
theorem encI {r : Int} (h0 : 0 ≤ r) : ((r.toNat : Nat) : Int) = r := Int.toNat_of_nonneg h0
set_option maxRecDepth 100000 in
set_option maxHeartbeats 1000000 in
theorem Encode_calls (r : Int) (w : World) (h0 : 0 ≤ r) (h : r ≤ 1114111) :
    Calls Tryd.prog 91 #[.int .i32 r] w fun e w' => e = .returned (.string (encS r.toNat)) ∧ Below w.heap.size w w' := by
  have hr := encI h0
  generalize r.toNat = n at hr
  go_enter Tryd.func91, Tryd.ntmps91
  go_wp2_with fail
  all_goals
    go_ret
    refine ⟨ret_str (encS_of ?_), (by repeat (first | assumption | exact Below.refl _ _ | apply Below.drew | apply below_drewN | apply balloc | (refine Below.setCell ?_ (by first | omega | (simp <;> omega)) _)))⟩
    first | exact encJ1 hr (by assumption) | exact encJ2 hr (by assumption) (by assumption) | exact encJ3 hr (by assumption) (by assumption) | exact encJ4 hr (by assumption)

end Go.Proofs.YtnldhgkmbighkaaDoor
