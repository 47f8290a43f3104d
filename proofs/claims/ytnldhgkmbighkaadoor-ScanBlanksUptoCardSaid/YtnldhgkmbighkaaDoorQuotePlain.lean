/- Plain laws: a text quoted, scanned, is that text; numbers' decimal digits, scanned. No program in sight. -/
import Derived.Test.YtnldhgkmbighkaaDoorLoc
namespace Go.Proofs.YtnldhgkmbighkaaDoor
open Go Go.RowKit

def hexL : List UInt8 := [48, 49, 50, 51, 52, 53, 54, 55, 56, 57, 97, 98, 99, 100, 101, 102]
/-- How a byte stands within quotes. -/
def escB (b : UInt8) : List UInt8 := if b = 34 ∨ b = 92 then [92, b] else if b.toNat < 32 then [92, 117, 48, 48, hexL.getD (b.toNat / 16) 0, hexL.getD (b.toNat % 16) 0] else [b]
def quoteL (l : List UInt8) : List UInt8 := 34 :: (l.flatMap escB ++ [34])
def quoteS (s : ByteArray) : ByteArray := ⟨(quoteL s.data.toList).toArray⟩
theorem nth_at {A : List UInt8} {l : List UInt8} (k : Nat) : bAt ⟨(A ++ l).toArray⟩ (A.length + k) = nthN l k := by rw [bAt_mk, nth_right]
theorem nth0 (c : UInt8) (l : List UInt8) : nthN (c :: l) 0 = c.toNat := rfl
theorem nthS (c : UInt8) (l : List UInt8) (k : Nat) : nthN (c :: l) (k + 1) = nthN l k := by simp [nthN]
theorem hex_esc : ∀ b : Nat, b < 32 → hexD (hexL.getD (b / 16) 0).toNat = b / 16 ∧ hexD (hexL.getD (b % 16) 0).toNat = b % 16 := by decide +kernel
theorem esc_low6 {A R : List UInt8} {b : UInt8} (hb : b.toNat < 32) : escAt ⟨(A ++ ([92, 117, 48, 48, hexL.getD (b.toNat / 16) 0, hexL.getD (b.toNat % 16) 0] ++ R)).toArray⟩ A.length = (0, b.toNat, 6) := by
  generalize ht : (⟨(A ++ ([92, 117, 48, 48, hexL.getD (b.toNat / 16) 0, hexL.getD (b.toNat % 16) 0] ++ R)).toArray⟩ : ByteArray) = t
  have e0 : bAt t A.length = 92 := by rw [← ht]; exact nth_at (A := A) 0
  have e1 : bAt t (A.length + 1) = 117 := by rw [← ht]; exact nth_at (A := A) 1
  have e2 : bAt t (A.length + 2) = 48 := by rw [← ht]; exact nth_at (A := A) 2
  have e3 : bAt t (A.length + 3) = 48 := by rw [← ht]; exact nth_at (A := A) 3
  have e4 : bAt t (A.length + 4) = (hexL.getD (b.toNat / 16) 0).toNat := by rw [← ht]; exact nth_at (A := A) 4
  have e5 : bAt t (A.length + 5) = (hexL.getD (b.toNat % 16) 0).toNat := by rw [← ht]; exact nth_at (A := A) 5
  obtain ⟨h1, h2⟩ := hex_esc b.toNat hb
  have hh : hexAt t A.length = b.toNat := by
    unfold hexAt
    rw [if_pos ⟨e0, e1⟩]
    have d48 : hexD 48 = 0 := rfl
    rw [hexF, hexF, hexF, hexF, hexF]
    rw [show A.length + 2 + 0 = A.length + 2 by omega, show A.length + 2 + 1 = A.length + 3 by omega, show A.length + 2 + 2 = A.length + 4 by omega, show A.length + 2 + 3 = A.length + 5 by omega]
    rw [e2, e3, e4, e5, h1, h2, d48]
    simp only [Nat.zero_mul, Nat.zero_add]
    rw [if_pos (show 0 < 65536 ∧ 0 < 16 by omega)]
    rw [if_pos (show 0 < 65536 ∧ 0 < 16 by omega)]
    simp only [Nat.zero_mul, Nat.zero_add]
    rw [if_pos (show 0 < 65536 ∧ b.toNat / 16 < 16 by omega), if_pos (show b.toNat / 16 < 65536 ∧ b.toNat % 16 < 16 by omega)]
    omega
  unfold escAt
  simp only
  rw [e1, hh, if_neg (by omega), if_neg (by omega), if_neg (by omega), if_neg (by omega), if_neg (by omega), if_neg (by omega), if_neg (by omega), if_pos (scalarN_iff.2 (by omega))]
theorem u8_back (b : UInt8) : UInt8.ofNat b.toNat = b := by simp
theorem q_quote (Z : List UInt8) : ∀ (l A acc : List UInt8), qAt ⟨(A ++ (l.flatMap escB ++ (34 :: Z))).toArray⟩ A.length acc = (0, A.length + (l.flatMap escB).length + 1, acc ++ l)
  | [], A, acc => by
    have e0 : bAt ⟨(A ++ (([] : List UInt8).flatMap escB ++ (34 :: Z))).toArray⟩ A.length = 34 := nth_at (A := A) 0
    rw [qAt_eq, if_pos (lt_of_bAt (by rw [e0]; decide)), e0, if_pos rfl]
    simp
  | b :: l, A, acc => by
    have ih := fun A acc => q_quote Z l A acc
    rw [List.flatMap_cons, List.append_assoc]
    by_cases h1 : b = 34 ∨ b = 92
    · have eb : escB b = [92, b] := by unfold escB; rw [if_pos h1]
      rw [eb]
      have e0 : bAt ⟨(A ++ ([92, b] ++ (l.flatMap escB ++ (34 :: Z)))).toArray⟩ A.length = 92 := nth_at (A := A) 0
      have e1 : bAt ⟨(A ++ ([92, b] ++ (l.flatMap escB ++ (34 :: Z)))).toArray⟩ (A.length + 1) = b.toNat := nth_at (A := A) 1
      have hesc : escAt ⟨(A ++ ([92, b] ++ (l.flatMap escB ++ (34 :: Z)))).toArray⟩ A.length = (0, b.toNat, 2) := by
        unfold escAt
        simp only
        rw [e1, if_pos (by rcases h1 with rfl | rfl <;> decide)]
      rw [qAt_eq, if_pos (lt_of_bAt (by rw [e0]; decide)), e0, if_neg (by decide), if_neg (by decide), if_pos rfl, hesc, if_pos rfl]
      simp only
      have e2 : (encN b.toNat).map UInt8.ofNat = [b] := by
        unfold encN
        rw [if_pos (by rcases h1 with rfl | rfl <;> decide)]
        simp
      have h2 := ih (A ++ [92, b]) (acc ++ [b])
      rw [List.append_assoc, List.length_append] at h2
      rw [e2]
      simp only [List.length_cons, List.length_nil, Nat.zero_add, Nat.reduceAdd] at h2
      rw [h2]
      simp only [List.length_append, List.length_cons, List.length_nil, Prod.mk.injEq, true_and, List.append_assoc, List.singleton_append, and_true]
      omega
    · have hne : b.toNat ≠ 34 ∧ b.toNat ≠ 92 := ⟨fun e => h1 (Or.inl (UInt8.toNat_inj.1 e)), fun e => h1 (Or.inr (UInt8.toNat_inj.1 e))⟩
      by_cases h2 : b.toNat < 32
      · have eb : escB b = [92, 117, 48, 48, hexL.getD (b.toNat / 16) 0, hexL.getD (b.toNat % 16) 0] := by unfold escB; rw [if_neg h1, if_pos h2]
        have hesc := esc_low6 (A := A) (R := l.flatMap escB ++ (34 :: Z)) h2
        rw [← eb] at hesc
        have e0 : bAt ⟨(A ++ (escB b ++ (l.flatMap escB ++ (34 :: Z)))).toArray⟩ A.length = 92 := by rw [eb]; exact nth_at (A := A) 0
        rw [qAt_eq, if_pos (lt_of_bAt (by rw [e0]; decide)), e0, if_neg (by decide), if_neg (by decide), if_pos rfl, hesc, if_pos rfl]
        simp only
        have e2 : (encN b.toNat).map UInt8.ofNat = [b] := by
          unfold encN
          rw [if_pos (by omega)]
          simp
        have h3 := ih (A ++ escB b) (acc ++ [b])
        have hl : (escB b).length = 6 := by rw [eb]; rfl
        rw [List.append_assoc, List.length_append, hl] at h3
        rw [e2, h3]
        simp only [List.length_append, hl, Prod.mk.injEq, true_and, List.append_assoc, List.singleton_append, and_true]
        omega
      · have eb : escB b = [b] := by unfold escB; rw [if_neg h1, if_neg h2]
        rw [eb]
        have e0 : bAt ⟨(A ++ ([b] ++ (l.flatMap escB ++ (34 :: Z)))).toArray⟩ A.length = b.toNat := nth_at (A := A) 0
        rw [qAt_eq, if_pos (lt_of_bAt (by rw [e0]; omega)), e0, if_neg hne.1, if_neg h2, if_neg hne.2, u8_back]
        have h3 := ih (A ++ [b]) (acc ++ [b])
        rw [List.append_assoc, List.length_append] at h3
        simp only [List.length_cons, List.length_nil, Nat.zero_add] at h3
        rw [h3]
        simp only [List.length_cons, Prod.mk.injEq, true_and, List.append_assoc, List.singleton_append, and_true]
        omega
theorem escB_ascii {b : UInt8} (h : b.toNat < 128) : ∀ c ∈ (escB b).map UInt8.toNat, c < 128 := by
  have key : ∀ n : Nat, n < 128 → ∀ c ∈ (escB (UInt8.ofNat n)).map UInt8.toNat, c < 128 := by decide +kernel
  have := key b.toNat h
  rwa [u8_back] at this
theorem escB_high {b : UInt8} (h : 128 ≤ b.toNat) : escB b = [b] := by
  unfold escB
  rw [if_neg, if_neg (by omega)]
  rintro (rfl | rfl) <;> exact absurd h (by decide)
theorem esc_vl : ∀ (rs : List Nat) (l : List UInt8), (∀ r ∈ rs, scalarN r = true) → l.map UInt8.toNat = rs.flatMap encN → VL ((l.flatMap escB).map UInt8.toNat)
  | [], l, _, h => by
    have : l = [] := by simpa using h
    subst this; exact VL.nil
  | r :: rs, l, hr, h => by
    rw [List.flatMap_cons] at h
    obtain ⟨l1, l2, rfl, h1, h2⟩ := List.map_eq_append_iff.1 h
    rw [List.flatMap_append, List.map_append]
    refine VL.append ?_ (esc_vl rs l2 (fun q hq => hr q (List.mem_cons_of_mem _ hq)) h2)
    by_cases hlt : r < 128
    · have e : encN r = [r] := by unfold encN; rw [if_pos hlt]
      rw [e] at h1
      obtain ⟨b, hb, rfl⟩ : ∃ b, l1 = [b] ∧ b.toNat = r := by
        match l1, h1 with
        | [b], h1 => exact ⟨b, rfl, by simpa using h1⟩
      subst hb
      rw [List.flatMap_singleton]
      exact VL.ascii (escB_ascii hlt)
    · have hge := encN_ge (r := r) (by omega)
      have e : l1.flatMap escB = l1 := by
        have : ∀ b ∈ l1, escB b = [b] := fun b hb => escB_high (hge b.toNat (by rw [← h1]; exact List.mem_map_of_mem hb))
        clear h1 h
        induction l1 with
        | nil => rfl
        | cons b l1 ih => rw [List.flatMap_cons, this b (List.mem_cons_self ..), ih (fun c hc => this c (List.mem_cons_of_mem _ hc))]; rfl
      rw [e, h1]
      exact VL.enc (hr r (List.mem_cons_self ..))
theorem quote_utf {s : ByteArray} (h : utfE s = 0) : utfE (quoteS s) = 0 := by
  obtain ⟨rs, hr, he⟩ := (utfE_iff s).1 h
  rw [bs_list] at he
  unfold quoteS
  rw [utfE_mk]
  unfold quoteL
  rw [List.map_cons, List.map_append]
  exact VL.append (l := [34]) (VL.one (by decide)) (VL.append (esc_vl rs _ hr he) (VL.one (by decide)))
theorem quote_one (s : ByteArray) : oneAt (quoteS s) 0 = (0, 0, ⟨5, 0, (quoteS s).size, s⟩) := by
  have hq := q_quote [] s.data.toList [34] []
  have e0 : bAt (quoteS s) 0 = 34 := by unfold quoteS; rw [bAt_mk]; rfl
  have hsz : (quoteS s).size = 1 + (s.data.toList.flatMap escB).length + 1 := by
    unfold quoteS; rw [size_mk]; unfold quoteL; simp; omega
  have hq2 : qAt (quoteS s) (0 + 1) [] = (0, (quoteS s).size, s.data.toList) := by
    rw [hsz]; exact hq
  unfold oneAt
  simp only
  rw [e0, if_neg (by decide), if_neg (by decide), if_neg (by decide), if_neg (by decide), if_neg (by decide), if_pos rfl, hq2, if_pos rfl]
/-- What is quoted, scanned. -/
theorem quote_scan {s : ByteArray} (h : utfE s = 0) : someS (quoteS s) = ([⟨5, 0, (quoteS s).size, s⟩], 0, 0) := by
  have hu := quote_utf h
  have hb := (utfE_brk _).1 hu
  have hp : 0 < (quoteS s).size := by unfold quoteS; rw [size_mk]; unfold quoteL; simp
  rw [someS_eq, if_pos hu]
  refine (scan_chain _ 0 (Nat.zero_le _) hb).2 ⟨Nat.le_refl _, hp, fun j h1 h2 => ?_, quote_one s, Nat.le_refl _, fun j h1 h2 => ?_⟩
  · simp only at h2; omega
  · simp only at h1; omega
/-- A text's escapes undone are UTF-8. -/
theorem q_valid (s : ByteArray) : ∀ (n i : Nat) (acc x : List UInt8) (p : Nat), s.size - i ≤ n → brkAt s i = s.size → VL (acc.map UInt8.toNat) → qAt s i acc = (0, p, x) → VL (x.map UInt8.toNat)
  | 0, i, acc, x, p, h1, _, _, hq => by
    rw [qAt_eq, if_neg (by omega)] at hq; simp at hq
  | n + 1, i, acc, x, p, h1, hb, ha, hq => by
    rw [qAt_eq] at hq
    by_cases hi : i < s.size
    · rw [if_pos hi] at hq
      by_cases h34 : bAt s i = 34
      · rw [if_pos h34] at hq
        simp only [Prod.mk.injEq, true_and] at hq
        rw [← hq.2]; exact ha
      rw [if_neg h34] at hq
      by_cases h32 : bAt s i < 32
      · rw [if_pos h32] at hq; simp at hq
      rw [if_neg h32] at hq
      by_cases h92 : bAt s i = 92
      · rw [if_pos h92] at hq
        by_cases he : (escAt s i).1 = 0
        · rw [if_pos he] at hq
          have hok := escAt_ok h92 he
          refine q_valid s n _ _ x p (by omega) ((esc_low h92 he).brk hb) ?_ hq
          rw [List.map_append, List.map_map]
          refine VL.append ha ?_
          have : (encN (escAt s i).2.1).map (UInt8.toNat ∘ UInt8.ofNat) = encN (escAt s i).2.1 := by
            have hlt : ∀ c ∈ encN (escAt s i).2.1, c < 256 := by
              have hs := scalarN_iff.1 hok.2.2.2.1
              intro c hc
              unfold encN at hc
              repeat' split at hc
              all_goals (simp at hc; omega)
            conv => rhs; rw [← List.map_id (encN (escAt s i).2.1)]
            apply List.map_congr_left
            intro c hc
            have := hlt c hc
            simp [UInt8.toNat_ofNat']; omega
          rw [this]
          exact VL.enc hok.2.2.2.1
        · rw [if_neg he] at hq
          simp only [Prod.mk.injEq] at hq
          exact absurd hq.1 he
      · rw [if_neg h92] at hq
        by_cases hlow : bAt s i < 128
        · refine q_valid s n _ _ x p (by omega) (brk_ascii hb hi hlow) ?_ hq
          rw [List.map_append]
          refine VL.append ha ?_
          simp only [List.map_cons, List.map_nil]
          rw [UInt8.toNat_ofNat', Nat.mod_eq_of_lt (bAt_lt _ _)]
          exact VL.one hlow
        · obtain ⟨h0, hb2⟩ := brk_next hi hb
          obtain ⟨hs, he, hw, hle, hc⟩ := rune_cases hi h0
          rcases hc with hc | hc
          · omega
          · have hq2 := qAt_high acc hle hc.2.2
            have hq3 : qAt s i acc = (0, p, x) := by
              rw [qAt_eq, if_pos hi, if_neg h34, if_neg h32, if_neg h92]; exact hq
            rw [hq2] at hq3
            refine q_valid s n _ _ x p (by omega) hb2 ?_ hq3
            rw [List.map_append, ← he, List.map_map]
            refine VL.append ha ?_
            have : (encN (refAt s i).1).map (UInt8.toNat ∘ UInt8.ofNat) = encN (refAt s i).1 := by
              conv => rhs; rw [← List.map_id (encN (refAt s i).1)]
              apply List.map_congr_left
              intro c hcm
              have : c < 256 := by
                rw [he] at hcm
                obtain ⟨j, _, rfl⟩ := List.mem_map.1 hcm
                exact bAt_lt _ _
              simp [UInt8.toNat_ofNat']; omega
            rw [this]
            exact VL.enc hs
    · rw [if_neg hi] at hq; simp at hq
theorem one_text {s : ByteArray} {i : Nat} (hi : i < s.size) (hb : brkAt s i = s.size) {T : Tk} (h : oneAt s i = (0, 0, T)) : utfE T.text = 0 := by
  have hno : utfE noS = 0 := by
    have := (utfE_mk []).2 VL.nil
    exact this
  unfold oneAt at h
  simp only at h
  by_cases h1 : signK (bAt s i) ≠ 0
  · rw [if_pos h1] at h; simp only [Prod.mk.injEq, true_and] at h; rw [← h]; exact hno
  rw [if_neg h1] at h
  by_cases h2 : bAt s i = 110
  · rw [if_pos h2] at h
    split at h
    · simp only [Prod.mk.injEq, true_and] at h; rw [← h]; exact hno
    · simp at h
  rw [if_neg h2] at h
  by_cases h3 : bAt s i = 116
  · rw [if_pos h3] at h
    split at h
    · simp only [Prod.mk.injEq, true_and] at h; rw [← h]; exact hno
    · simp at h
  rw [if_neg h3] at h
  by_cases h4 : bAt s i = 102
  · rw [if_pos h4] at h
    split at h
    · simp only [Prod.mk.injEq, true_and] at h; rw [← h]; exact hno
    · simp at h
  rw [if_neg h4] at h
  by_cases h5 : bAt s i = 45 ∨ isD (bAt s i) = true
  · rw [if_pos h5] at h
    split at h
    · simp only [Prod.mk.injEq, true_and] at h; rw [← h]; exact hno
    · simp at h
  rw [if_neg h5] at h
  by_cases h6 : bAt s i = 34
  · rw [if_pos h6] at h
    cases hQ : qAt s (i + 1) [] with
    | mk e r =>
      obtain ⟨p, x⟩ := r
      rw [hQ] at h
      by_cases he : e = 0
      · subst he
        rw [if_pos rfl] at h
        simp only [Prod.mk.injEq, true_and] at h
        rw [← h]
        show utfE ⟨x.toArray⟩ = 0
        rw [utfE_mk]
        exact q_valid s _ (i + 1) [] x p (Nat.le_refl _) (brk_ascii hb hi (by omega)) VL.nil hQ
      · rw [if_neg he] at h
        simp only [Prod.mk.injEq] at h
        exact absurd h.1 he
  · rw [if_neg h6] at h; simp at h

end Go.Proofs.YtnldhgkmbighkaaDoor
