/- Lemmas of the proof, put together: Idx, TreeAt, Is, Is2, Is3, Spoil, As, Lives18, At18. -/
import Derived.Test.YtibopkodoidjoaaGreatDoorM7
import Derived.Test.YtibopkodoidjoaaGreatDoorM5
import Derived.Test.YtibopkodoidjoaaGreatDoorM1
import Derived.Stop.Asserts
import Derived.RowKitTokens

/- The reference's tree: index. -/
namespace Go.Proofs.YtibopkodoidjoaaGreatDoor
open Go Go.RowKit

theorem bAt_lst (t : ByteArray) (j : Nat) (h : j < t.size) : ∃ c, t.data.toList[j]? = some c ∧ c.toNat = bAt t j := by
  refine ⟨t[j], ?_, bAt_eq t j h⟩
  rw [Array.getElem?_toList]
  exact Array.getElem?_eq_getElem h
/-- The number that digits spell, at most 2^40. -/
def satS (a : Nat) (c : UInt8) : Nat := if 10 * a + (c.toNat - 48) ≤ 1099511627776 then 10 * a + (c.toNat - 48) else 1099511627776
def satL (a : Nat) (l : List UInt8) : Nat := l.foldl satS a
theorem satL_cons (a : Nat) (c : UInt8) (l : List UInt8) : satL a (c :: l) = satL (satS a c) l := by
  unfold satL
  rw [List.foldl_cons]
def satK (t : ByteArray) (k : Nat) : Nat := satL 0 (t.data.toList.take k)
theorem satL_snoc (l : List UInt8) (a : Nat) (c : UInt8) : satL a (l ++ [c]) = satS (satL a l) c := by
  unfold satL
  rw [List.foldl_append, List.foldl_cons, List.foldl_nil]
theorem satS_le (a : Nat) (c : UInt8) : satS a c ≤ 1099511627776 := by unfold satS; split <;> omega
theorem satL_le : ∀ (l : List UInt8) (a : Nat), a ≤ 1099511627776 → satL a l ≤ 1099511627776
  | [], a, h => h
  | c :: l, a, h => by rw [satL_cons]; exact satL_le l _ (satS_le _ _)
theorem satS_top {a : Nat} (c : UInt8) (h : 1099511627776 ≤ a) : satS a c = 1099511627776 := by unfold satS; split <;> omega
theorem satL_top : ∀ (l : List UInt8) (a : Nat), a = 1099511627776 → satL a l = 1099511627776
  | [], a, h => h
  | c :: l, a, h => by rw [satL_cons]; exact satL_top l _ (satS_top c (by omega))
theorem satK_succ {t : ByteArray} {k : Nat} (h : k < t.size) : satK t (k + 1) = if 10 * satK t k + (bAt t k - 48) ≤ 1099511627776 then 10 * satK t k + (bAt t k - 48) else 1099511627776 := by
  obtain ⟨c, hc, hn⟩ := bAt_lst t k h
  unfold satK
  rw [List.take_add_one, hc]
  simp only [Option.toList_some]
  rw [satL_snoc, satS, hn]
theorem satK_le (t : ByteArray) (k : Nat) : satK t k ≤ 1099511627776 := satL_le _ _ (Nat.zero_le _)
theorem uint_sat : ∀ (l : List UInt8) (a s : Nat), (∀ c ∈ l, 48 ≤ c.toNat ∧ c.toNat ≤ 57) → s = min a 1099511627776 → a < 18446744073709551616 →
    (∀ u, Lib.parseUint10 a l = .ok u → satL s l = min u 1099511627776) ∧ (Lib.parseUint10 a l = .range → satL s l = 1099511627776) ∧ Lib.parseUint10 a l ≠ Lib.NumEnd.syntax
  | [], a, s, _, hs, _ => by
    simp only [Lib.parseUint10]
    exact ⟨fun u h => by cases h; exact hs, fun h => (by cases h), fun h => (by cases h)⟩
  | c :: l, a, s, hd, hs, ha => by
    have hc := hd c (List.mem_cons_self ..)
    have hsat : 1844674407370955162 ≤ a ∨ 18446744073709551616 ≤ a * 10 + (c.toNat - 48) → satL s (c :: l) = 1099511627776 := fun h => by
      rw [satL_cons]
      exact satL_top l _ (satS_top c (by omega))
    simp only [Lib.parseUint10]
    rw [if_pos hc]
    by_cases h1 : 1844674407370955162 ≤ a
    · rw [if_pos h1]
      exact ⟨fun u h => (by cases h), fun _ => hsat (Or.inl h1), fun h => (by cases h)⟩
    · rw [if_neg h1]
      by_cases h2 : 18446744073709551616 ≤ a * 10 + (c.toNat - 48)
      · rw [if_pos h2]
        exact ⟨fun u h => (by cases h), fun _ => hsat (Or.inr h2), fun h => (by cases h)⟩
      · rw [if_neg h2]
        rw [satL_cons]
        exact uint_sat l (a * 10 + (c.toNat - 48)) (satS s c) (fun d hd2 => hd d (List.mem_cons_of_mem _ hd2)) (by unfold satS; split <;> omega) (by omega)
/-- What index answers. -/
def idxV (t : ByteArray) : Int := if numOk t = true then (satK t t.size : Int) else -1
/-- What the two readings of a number have in common. -/
theorem num_same {t : ByteArray} (h : numOk t = true) (L : Nat) (hL : L ≤ 1099511627776) : ((numV t < 0 ∨ (L : Int) ≤ numV t) ↔ L ≤ satK t t.size) ∧ (satK t t.size < L → numV t = (satK t t.size : Int)) := by
  obtain ⟨h0, _, hd⟩ := (numOk_iff t).1 h
  have hlen : t.data.toList.length = t.size := by rw [Array.length_toList]; rfl
  have hall : ∀ c ∈ t.data.toList, 48 ≤ c.toNat ∧ c.toNat ≤ 57 := fun c hc => by
    obtain ⟨j, hj, rfl⟩ := List.getElem_of_mem hc
    obtain ⟨c2, hc2, hn⟩ := bAt_lst t j (by omega)
    rw [List.getElem?_eq_getElem hj] at hc2
    cases hc2
    have := digB_iff.1 (hd j (by omega))
    omega
  have hs : satK t t.size = satL 0 t.data.toList := by unfold satK; rw [List.take_of_length_le (by omega)]
  have hv : numV t = match Lib.atoiAll t.data.toList with | .ok v => v | _ => -1 := rfl
  rw [hs]
  cases hl : t.data.toList with
  | nil => rw [hl] at hlen; simp at hlen; omega
  | cons c r =>
    rw [hl] at hall hv
    have hc := hall c (List.mem_cons_self ..)
    obtain ⟨k1, k2, k3⟩ := uint_sat (c :: r) 0 0 hall rfl (by decide)
    have hat : Lib.atoiAll (c :: r) = match Lib.parseUint10 0 (c :: r) with | .ok u => if 9223372036854775808 ≤ u then .range else .ok (u : Int) | .range => .range | _ => Lib.NumEnd.syntax := by
      simp only [Lib.atoiAll, Lib.parseMag]
      rw [if_neg (show ¬ (c.toNat = 43 ∨ c.toNat = 45) by omega), if_neg (by simp)]
      cases Lib.parseUint10 0 (c :: r) with
      | ok u =>
        simp only []
        by_cases hu : 9223372036854775808 ≤ u
        · rw [if_pos ⟨by omega, hu⟩, if_pos hu]
        · rw [if_neg (by omega), if_neg (by omega), if_neg hu, if_neg (by omega)]
      | range => rfl
      | _ => rfl
    rw [hat] at hv
    cases hp : Lib.parseUint10 0 (c :: r) with
    | ok u =>
      have h1 := k1 u hp
      rw [hp] at hv
      rw [h1]
      by_cases hu : 9223372036854775808 ≤ u
      · have hv2 : numV t = -1 := by rw [hv]; simp only []; rw [if_pos hu]
        rw [hv2]
        exact ⟨⟨fun _ => by omega, fun _ => Or.inl (by decide)⟩, fun h => by omega⟩
      · have hv2 : numV t = (u : Int) := by rw [hv]; simp only []; rw [if_neg hu]
        rw [hv2]
        exact ⟨⟨fun h => by omega, fun h => Or.inr (by omega)⟩, fun h => by omega⟩
    | range =>
      have h1 := k2 hp
      rw [hp] at hv
      have hv2 : numV t = -1 := hv
      rw [h1, hv2]
      exact ⟨⟨fun _ => hL, fun _ => Or.inl (by decide)⟩, fun h => by omega⟩
    | _ => exact absurd hp k3
set_option maxHeartbeats 2000000 in
set_option maxRecDepth 100000 in
theorem idx_calls (t : ByteArray) (w : World) (ht : t.size ≤ 281474976710656) :
    Calls Tryz.prog 56 #[.string t] w fun e w' => e = .returned (.int .i64 (idxV t)) ∧ Below w.heap.size w w' := by
  have htI : (t.size : Int) ≤ 281474976710656 := by omega
  by_cases h0 : t.size = 0
  · have hR : idxV t = -1 := by unfold idxV; rw [if_neg]; rw [numOk_iff]; exact fun h => h.1 h0
    rw [hR]
    replace hR := Lib.hid hR
    have hem : t = ⟨#[]⟩ := ByteArray.ext (Array.eq_empty_of_size_eq_zero h0)
    subst hem
    go_enter Tryz.func56, Tryz.ntmps56
    go_wp2_with fail
    go_ret
    exact ⟨rfl, (by repeat (first | assumption | exact Below.refl _ _ | apply Below.drew | apply below_drewN | apply balloc | (refine Below.setCell ?_ (by first | omega | (simp <;> omega)) _)))⟩
  have hpos : (0 : Int) < (t.size : Int) := by omega
  have hne0 : t.toList.isEmpty = false := not_empty h0
  have hb0 := byte_at t 0
  by_cases hz : 1 < t.size ∧ bAt t 0 = 48
  · have hR : idxV t = -1 := by
      unfold idxV
      rw [if_neg]
      rw [numOk_iff]
      refine fun h => h.2.1 ⟨hz.2, fun e => ?_⟩
      have := congrArg ByteArray.size e
      have h1 : (⟨#[48]⟩ : ByteArray).size = 1 := rfl
      omega
    rw [hR]
    obtain ⟨hz1, hz2⟩ := hz
    have hz3 : (1 : Int) < (t.size : Int) := by omega
    rw [hz2] at hb0
    replace hz2 := Lib.hid hz2
    replace hR := Lib.hid hR
    go_enter Tryz.func56, Tryz.ntmps56
    go_wp2_with fail
    go_ret
    exact ⟨rfl, (by repeat (first | assumption | exact Below.refl _ _ | apply Below.drew | apply below_drewN | apply balloc | (refine Below.setCell ?_ (by first | omega | (simp <;> omega)) _)))⟩
  · have LOOP : Hid (∀ (k : Nat), k < t.size → 48 ≤ bAt t k → bAt t k ≤ 57 → 0 ≤ (bAt t k : Int) - 48 ∧ (bAt t k : Int) - 48 ≤ 9) := Lib.hid (fun k _ h1 h2 => by omega)
    obtain ⟨R, hR⟩ : ∃ R, R = idxV t := ⟨_, rfl⟩
    rw [← hR]
    replace hR := Lib.hid hR
    have hz2 : (1 < t.size → bAt t 0 ≠ 48) := fun h h2 => hz ⟨h, h2⟩
    by_cases h1 : 1 < t.size
    · have h1I : (1 : Int) < (t.size : Int) := by omega
      have h48 := hz2 h1
      have h48b : ((bAt t 0 : Int) == 48) = false := by simp; omega
      have h48c : ¬ (bAt t 0 : Int) = 48 := by omega
      replace hz := Lib.hid hz
      replace h48 := Lib.hid h48
      clear hz2
      go_enter Tryz.func56, Tryz.ntmps56
      go_wp2_with fail
      go_loopw [4, 3] (fun v4 v3 wr => ∃ k : Nat, k ≤ t.size ∧ v4 = .int .i64 (k : Int) ∧ v3 = .int .i64 (satK t k : Int) ∧ Hid (∀ j, j < k → digB (bAt t j) = true) ∧ Below w.heap.size w wr) (fun v _ _ => t.size - (intOf v).toNat)
      case atStart => exact ⟨0, Nat.zero_le _, rfl, rfl, Lib.hid (fun j h => absurd h (Nat.not_lt_zero _)), (by repeat (first | assumption | exact Below.refl _ _ | apply Below.drew | apply below_drewN | apply balloc | (refine Below.setCell ?_ (by first | omega | (simp <;> omega)) _)))⟩
      case round =>
        obtain ⟨k, hk, rfl, rfl, hd, hB⟩ := hrel
        have hx := byte_at t k
        clear hb0
        by_cases hlt : k < t.size
        · have hltI : (k : Int) < (t.size : Int) := by omega
          by_cases hl : bAt t k < 48
          · have hlI : (bAt t k : Int) < 48 := by omega
            have hRR : R = -1 := by
              rw [hR.out]
              unfold idxV
              rw [if_neg]
              rw [numOk_iff]
              intro h
              have := digB_iff.1 (h.2.2 k hlt)
              omega
            replace hRR := Lib.hid hRR
            go_wp2_with fail
            go_ret
            exact ⟨by rw [hRR.out]; rfl, hB⟩
          · have hlI : ¬ (bAt t k : Int) < 48 := by omega
            by_cases hu : 57 < bAt t k
            · have huI : (57 : Int) < (bAt t k : Int) := by omega
              have hRR : R = -1 := by
                rw [hR.out]
                unfold idxV
                rw [if_neg]
                rw [numOk_iff]
                intro h
                have := digB_iff.1 (h.2.2 k hlt)
                omega
              replace hRR := Lib.hid hRR
              go_wp2_with fail
              go_ret
              exact ⟨by rw [hRR.out]; rfl, hB⟩
            · have huI : ¬ (57 : Int) < (bAt t k : Int) := by omega
              have hs := satK_le t k
              have hsI : (satK t k : Int) ≤ 1099511627776 := by omega
              have hsI0 : (0 : Int) ≤ (satK t k : Int) := by omega
              have hS := satK_succ hlt
              have hd2 : Hid (∀ j, j < k + 1 → digB (bAt t j) = true) := Lib.hid (fun j hj => by
                rcases Nat.lt_or_ge j k with h | h
                · exact hd.out j h
                · have : j = k := by omega
                  subst this
                  exact digB_iff.2 ⟨by omega, by omega⟩)
              obtain ⟨S, hSS⟩ : ∃ S, S = satK t k := ⟨_, rfl⟩
              obtain ⟨c, hc⟩ : ∃ c : Int, c = (bAt t k : Int) := ⟨_, rfl⟩
              rw [← hSS] at hsI hsI0 hS hs ⊢
              rw [← hc] at hlI huI hx
              have hcl : (48 : Int) ≤ c := by omega
              have hcu : c ≤ 57 := by omega
              have hS2 : Hid ((satK t (k + 1) : Int) = min (10 * (S : Int) + (c - 48)) 1099511627776) := Lib.hid (by rw [hS, hc]; split <;> omega)
              replace hS := Lib.hid hS
              replace hc := Lib.hid hc
              replace hSS := Lib.hid hSS
              go_wp2_with fail
              go_roundw
              case measure => simp [intOf]; omega
              case rel => exact ⟨k + 1, by omega, by go_num, by rw [hS2.out], hd2, hB⟩
        · obtain rfl : k = t.size := by omega
          have hlt' : ¬ (t.size : Int) < (t.size : Int) := by omega
          have hRR : R = (satK t t.size : Int) := by
            rw [hR.out]
            unfold idxV
            rw [if_pos]
            rw [numOk_iff]
            refine ⟨h0, fun h => ?_, hd.out⟩
            rcases Nat.lt_or_ge 1 t.size with h2 | h2
            · exact hz.out ⟨h2, h.1⟩
            · apply h.2
              apply ByteArray.ext
              have h3 : t.data.size = 1 := by have : t.data.size = t.size := rfl; omega
              obtain ⟨c, hc, hn⟩ := bAt_lst t 0 (by omega)
              have h4 : t.data.toList = [c] := by
                have h5 : t.data.toList.length = 1 := by rw [Array.length_toList]; exact h3
                obtain ⟨d, hd3⟩ := List.length_eq_one_iff.1 h5
                rw [hd3] at hc ⊢
                simp at hc
                rw [hc]
              apply Array.toList_inj.1
              rw [h4]
              have : c = 48 := UInt8.toNat_inj.1 (by rw [hn, h.1]; rfl)
              rw [this]
          replace hRR := Lib.hid hRR
          go_wp2_with fail
          go_ret
          exact ⟨by rw [hRR.out]; rfl, hB⟩
    · have h1I : ¬ (1 : Int) < (t.size : Int) := by omega
      replace hz := Lib.hid hz
      clear hz2
      go_enter Tryz.func56, Tryz.ntmps56
      go_wp2_with fail
      go_loopw [4, 3] (fun v4 v3 wr => ∃ k : Nat, k ≤ t.size ∧ v4 = .int .i64 (k : Int) ∧ v3 = .int .i64 (satK t k : Int) ∧ Hid (∀ j, j < k → digB (bAt t j) = true) ∧ Below w.heap.size w wr) (fun v _ _ => t.size - (intOf v).toNat)
      case atStart => exact ⟨0, Nat.zero_le _, rfl, rfl, Lib.hid (fun j h => absurd h (Nat.not_lt_zero _)), (by repeat (first | assumption | exact Below.refl _ _ | apply Below.drew | apply below_drewN | apply balloc | (refine Below.setCell ?_ (by first | omega | (simp <;> omega)) _)))⟩
      case round =>
        obtain ⟨k, hk, rfl, rfl, hd, hB⟩ := hrel
        have hx := byte_at t k
        clear hb0
        by_cases hlt : k < t.size
        · have hltI : (k : Int) < (t.size : Int) := by omega
          by_cases hl : bAt t k < 48
          · have hlI : (bAt t k : Int) < 48 := by omega
            have hRR : R = -1 := by
              rw [hR.out]
              unfold idxV
              rw [if_neg]
              rw [numOk_iff]
              intro h
              have := digB_iff.1 (h.2.2 k hlt)
              omega
            replace hRR := Lib.hid hRR
            go_wp2_with fail
            go_ret
            exact ⟨by rw [hRR.out]; rfl, hB⟩
          · have hlI : ¬ (bAt t k : Int) < 48 := by omega
            by_cases hu : 57 < bAt t k
            · have huI : (57 : Int) < (bAt t k : Int) := by omega
              have hRR : R = -1 := by
                rw [hR.out]
                unfold idxV
                rw [if_neg]
                rw [numOk_iff]
                intro h
                have := digB_iff.1 (h.2.2 k hlt)
                omega
              replace hRR := Lib.hid hRR
              go_wp2_with fail
              go_ret
              exact ⟨by rw [hRR.out]; rfl, hB⟩
            · have huI : ¬ (57 : Int) < (bAt t k : Int) := by omega
              have hs := satK_le t k
              have hsI : (satK t k : Int) ≤ 1099511627776 := by omega
              have hsI0 : (0 : Int) ≤ (satK t k : Int) := by omega
              have hS := satK_succ hlt
              have hd2 : Hid (∀ j, j < k + 1 → digB (bAt t j) = true) := Lib.hid (fun j hj => by
                rcases Nat.lt_or_ge j k with h | h
                · exact hd.out j h
                · have : j = k := by omega
                  subst this
                  exact digB_iff.2 ⟨by omega, by omega⟩)
              obtain ⟨S, hSS⟩ : ∃ S, S = satK t k := ⟨_, rfl⟩
              obtain ⟨c, hc⟩ : ∃ c : Int, c = (bAt t k : Int) := ⟨_, rfl⟩
              rw [← hSS] at hsI hsI0 hS hs ⊢
              rw [← hc] at hlI huI hx
              have hcl : (48 : Int) ≤ c := by omega
              have hcu : c ≤ 57 := by omega
              have hS2 : Hid ((satK t (k + 1) : Int) = min (10 * (S : Int) + (c - 48)) 1099511627776) := Lib.hid (by rw [hS, hc]; split <;> omega)
              replace hS := Lib.hid hS
              replace hc := Lib.hid hc
              replace hSS := Lib.hid hSS
              go_wp2_with fail
              go_roundw
              case measure => simp [intOf]; omega
              case rel => exact ⟨k + 1, by omega, by go_num, by rw [hS2.out], hd2, hB⟩
        · obtain rfl : k = t.size := by omega
          have hlt' : ¬ (t.size : Int) < (t.size : Int) := by omega
          have hRR : R = (satK t t.size : Int) := by
            rw [hR.out]
            unfold idxV
            rw [if_pos]
            rw [numOk_iff]
            refine ⟨h0, fun h => ?_, hd.out⟩
            rcases Nat.lt_or_ge 1 t.size with h2 | h2
            · exact hz.out ⟨h2, h.1⟩
            · apply h.2
              apply ByteArray.ext
              have h3 : t.data.size = 1 := by have : t.data.size = t.size := rfl; omega
              obtain ⟨c, hc, hn⟩ := bAt_lst t 0 (by omega)
              have h4 : t.data.toList = [c] := by
                have h5 : t.data.toList.length = 1 := by rw [Array.length_toList]; exact h3
                obtain ⟨d, hd3⟩ := List.length_eq_one_iff.1 h5
                rw [hd3] at hc ⊢
                simp at hc
                rw [hc]
              apply Array.toList_inj.1
              rw [h4]
              have : c = 48 := UInt8.toNat_inj.1 (by rw [hn, h.1]; rfl)
              rw [this]
          replace hRR := Lib.hid hRR
          go_wp2_with fail
          go_ret
          exact ⟨by rw [hRR.out]; rfl, hB⟩

end Go.Proofs.YtibopkodoidjoaaGreatDoor

/- The statements of chapter 18: At of a node. -/
namespace Go.Proofs.YtibopkodoidjoaaGreatDoor
open Go Go.RowKit

@[go_sem] theorem na_AtNodeNull (d : Nat) (w : World) (p : Int) : (nilAhead (d + 3) 90 (.agg #[.int .i64 p]) "At").run Tryz.prog w = .ok (some false) w := by kernel_rfl
@[go_sem] theorem me_AtNodeNull (d : Nat) (w : World) (p : Int) : (method (d + 3) 90 (.agg #[.int .i64 p]) "At").run Tryz.prog w = .ok (174, .agg #[.int .i64 p]) w := by kernel_rfl
@[go_sem] theorem na_AtNodeFlag (d : Nat) (w : World) (p : Int) (b : Bool) : (nilAhead (d + 3) 92 (.agg #[.int .i64 p, .bool b]) "At").run Tryz.prog w = .ok (some false) w := by kernel_rfl
@[go_sem] theorem me_AtNodeFlag (d : Nat) (w : World) (p : Int) (b : Bool) : (method (d + 3) 92 (.agg #[.int .i64 p, .bool b]) "At").run Tryz.prog w = .ok (174, .agg #[.int .i64 p]) w := by kernel_rfl
@[go_sem] theorem na_AtNodeNumber (d : Nat) (w : World) (p : Int) (t : ByteArray) : (nilAhead (d + 3) 94 (.agg #[.int .i64 p, .string t]) "At").run Tryz.prog w = .ok (some false) w := by kernel_rfl
@[go_sem] theorem me_AtNodeNumber (d : Nat) (w : World) (p : Int) (t : ByteArray) : (method (d + 3) 94 (.agg #[.int .i64 p, .string t]) "At").run Tryz.prog w = .ok (174, .agg #[.int .i64 p]) w := by kernel_rfl
@[go_sem] theorem na_AtNodeText (d : Nat) (w : World) (p : Int) (t : ByteArray) : (nilAhead (d + 3) 95 (.agg #[.int .i64 p, .string t]) "At").run Tryz.prog w = .ok (some false) w := by kernel_rfl
@[go_sem] theorem me_AtNodeText (d : Nat) (w : World) (p : Int) (t : ByteArray) : (method (d + 3) 95 (.agg #[.int .i64 p, .string t]) "At").run Tryz.prog w = .ok (174, .agg #[.int .i64 p]) w := by kernel_rfl
@[go_sem] theorem na_AtNodeList (d : Nat) (w : World) (p : Int) (a : Option Addr) (n c : Nat) : (nilAhead (d + 3) 98 (.agg #[.int .i64 p, .slice a n c]) "At").run Tryz.prog w = .ok (some false) w := by kernel_rfl
@[go_sem] theorem me_AtNodeList (d : Nat) (w : World) (p : Int) (a : Option Addr) (n c : Nat) : (method (d + 3) 98 (.agg #[.int .i64 p, .slice a n c]) "At").run Tryz.prog w = .ok (174, .agg #[.int .i64 p]) w := by kernel_rfl
@[go_sem] theorem na_AtNodeObject (d : Nat) (w : World) (p : Int) (a : Option Addr) (n c : Nat) : (nilAhead (d + 3) 101 (.agg #[.int .i64 p, .slice a n c]) "At").run Tryz.prog w = .ok (some false) w := by kernel_rfl
@[go_sem] theorem me_AtNodeObject (d : Nat) (w : World) (p : Int) (a : Option Addr) (n c : Nat) : (method (d + 3) 101 (.agg #[.int .i64 p, .slice a n c]) "At").run Tryz.prog w = .ok (174, .agg #[.int .i64 p]) w := by kernel_rfl
set_option maxHeartbeats 1000000 in
theorem At_calls (p : Int) (w : World) : Calls Tryz.prog 174 #[.agg #[.int .i64 p]] w fun e w' => e = .returned (.int .i64 p) ∧ Below w.heap.size w w' := by
  go_enter Tryz.func174, Tryz.ntmps174
  (go_wp2_with fail; repeat (any_goals (go_quiet (fail); go_wp2_with fail)))
  go_ret
  exact ⟨rfl, (by repeat (first | assumption | exact Below.refl _ _ | apply Below.drew | apply below_drewN | apply balloc | (refine Below.setCell ?_ (by first | omega | (simp <;> omega)) _)))⟩
end Go.Proofs.YtibopkodoidjoaaGreatDoor

/- The statements of chapter 18: is, plain nodes. -/
namespace Go.Proofs.YtibopkodoidjoaaGreatDoor
open Go Go.RowKit

def BoxR (g : Nat) (u : Array Value) (w : World) : Prop := w.heap[g]? = some (.cells u 33 (0, 0))
theorem BoxR.two {g : Nat} {P : Int} {a0 a2 a3 a4 a5 a6 : Value} {w : World} (h : BoxR g #[a0, .int .i64 P, a2, a3, a4, a5, a6] w) : w.cell? ⟨g, 1, none⟩ = some (.int .i64 P) ∧ BoxR g #[a0, .int .i64 P, a2, a3, a4, a5, a6] w := ⟨cellB h 1 rfl, h⟩
theorem BoxR.all {g : Nat} {a0 a1 a2 a3 a4 a5 a6 : Value} {w : World} (h : BoxR g #[a0, a1, a2, a3, a4, a5, a6] w) : w.cell? ⟨g, 0, none⟩ = some a0 ∧ w.cell? ⟨g, 2, none⟩ = some a2 ∧ w.cell? ⟨g, 3, none⟩ = some a3 ∧ w.cell? ⟨g, 4, none⟩ = some a4 ∧ w.cell? ⟨g, 5, none⟩ = some a5 ∧ w.cell? ⟨g, 6, none⟩ = some a6 :=
  ⟨cellB h 0 rfl, cellB h 2 rfl, cellB h 3 rfl, cellB h 4 rfl, cellB h 5 rfl, cellB h 6 rfl⟩
theorem BoxR.drew {g : Nat} {u : Array Value} {w : World} (h : BoxR g u w) : BoxR g u w.drew := h
theorem BoxR.next {g : Nat} {u : Array Value} {w w' : World} (h : BoxR g u w) (hb : Below w.heap.size w w') : BoxR g u w' := box_next h hb
set_option maxHeartbeats 2000000 in
set_option maxRecDepth 100000 in
theorem is_null (P : Nat) (w : World) : Calls Tryz.prog 12 #[.iface 90 (.agg #[.int .i64 (P : Int)]), .agg #[.int .i64 0, .int .i64 (P : Int), .bool false, .string ⟨#[]⟩, .slice none 0 0, .slice none 0 0, .slice none 0 0]] w fun e w' => e = .returned (.bool true) ∧ Below w.heap.size w w' := by
  have T1 := Lib.hid (fun w => At_calls (P : Int) w)
  go_enter Tryz.func12, Tryz.ntmps12
  go_upto_region 1 with fail
  have hB0 : BoxR w.heap.size #[.int .i64 0, .int .i64 (P : Int), .bool false, .string ⟨#[]⟩, .slice none 0 0, .slice none 0 0, .slice none 0 0] (w.alloc (.cells #[.int .i64 0, .int .i64 (P : Int), .bool false, .string ⟨#[]⟩, .slice none 0 0, .slice none 0 0, .slice none 0 0] 33 (0, 0))) := heap_alloc_new _ _
  go_region_held3 (fun w' => w'.cell? ⟨w.heap.size, 1, none⟩ = some (.int .i64 (P : Int)) ∧ BoxR w.heap.size #[.int .i64 0, .int .i64 (P : Int), .bool false, .string ⟨#[]⟩, .slice none 0 0, .slice none 0 0, .slice none 0 0] w') (first | exact BoxR.two ‹_› | exact BoxR.two (BoxR.drew hB0)) ((go_at_call 174; refine (T1.out _).mono ?_; rintro e w8 ⟨rfl, hb⟩; have hB8 := BoxR.next (BoxR.drew hB0) hb; have hb8 : Below w.heap.size w w8 := bcall (by repeat (first | assumption | exact Below.refl _ _ | apply Below.drew | apply below_drewN | apply balloc | (refine Below.setCell ?_ (by first | omega | (simp <;> omega)) _))) hb; clear hb))
  obtain ⟨c0, c2, c3, c4, c5, c6⟩ := hB8.all
  have hlt8 := ltB hB8
  (go_wp2_with fail; repeat (any_goals (go_quiet (fail); go_wp2_with fail)))

  go_ret
  exact ⟨rfl, (by repeat (first | assumption | exact Below.refl _ _ | apply Below.drew | apply below_drewN | apply balloc | (refine Below.setCell ?_ (by first | omega | (simp <;> omega)) _)))⟩
set_option maxHeartbeats 2000000 in
set_option maxRecDepth 100000 in
theorem is_flag (P : Nat) (b : Bool) (w : World) : Calls Tryz.prog 12 #[.iface 92 (.agg #[.int .i64 (P : Int), .bool b]), .agg #[.int .i64 1, .int .i64 (P : Int), .bool b, .string ⟨#[]⟩, .slice none 0 0, .slice none 0 0, .slice none 0 0]] w fun e w' => e = .returned (.bool true) ∧ Below w.heap.size w w' := by
  have T1 := Lib.hid (fun w => At_calls (P : Int) w)
  go_enter Tryz.func12, Tryz.ntmps12
  go_upto_region 1 with fail
  have hB0 : BoxR w.heap.size #[.int .i64 1, .int .i64 (P : Int), .bool b, .string ⟨#[]⟩, .slice none 0 0, .slice none 0 0, .slice none 0 0] (w.alloc (.cells #[.int .i64 1, .int .i64 (P : Int), .bool b, .string ⟨#[]⟩, .slice none 0 0, .slice none 0 0, .slice none 0 0] 33 (0, 0))) := heap_alloc_new _ _
  go_region_held3 (fun w' => w'.cell? ⟨w.heap.size, 1, none⟩ = some (.int .i64 (P : Int)) ∧ BoxR w.heap.size #[.int .i64 1, .int .i64 (P : Int), .bool b, .string ⟨#[]⟩, .slice none 0 0, .slice none 0 0, .slice none 0 0] w') (first | exact BoxR.two ‹_› | exact BoxR.two (BoxR.drew hB0)) ((go_at_call 174; refine (T1.out _).mono ?_; rintro e w8 ⟨rfl, hb⟩; have hB8 := BoxR.next (BoxR.drew hB0) hb; have hb8 : Below w.heap.size w w8 := bcall (by repeat (first | assumption | exact Below.refl _ _ | apply Below.drew | apply below_drewN | apply balloc | (refine Below.setCell ?_ (by first | omega | (simp <;> omega)) _))) hb; clear hb))
  obtain ⟨c0, c2, c3, c4, c5, c6⟩ := hB8.all
  have hlt8 := ltB hB8
  (go_wp2_with fail; repeat (any_goals (go_quiet (fail); go_wp2_with fail)))

  go_ret
  exact ⟨rfl, (by repeat (first | assumption | exact Below.refl _ _ | apply Below.drew | apply below_drewN | apply balloc | (refine Below.setCell ?_ (by first | omega | (simp <;> omega)) _)))⟩
set_option maxHeartbeats 2000000 in
set_option maxRecDepth 100000 in
theorem is_num (P : Nat) (t : ByteArray) (w : World) : Calls Tryz.prog 12 #[.iface 94 (.agg #[.int .i64 (P : Int), .string t]), .agg #[.int .i64 2, .int .i64 (P : Int), .bool false, .string t, .slice none 0 0, .slice none 0 0, .slice none 0 0]] w fun e w' => e = .returned (.bool true) ∧ Below w.heap.size w w' := by
  have T1 := Lib.hid (fun w => At_calls (P : Int) w)
  go_enter Tryz.func12, Tryz.ntmps12
  go_upto_region 1 with fail
  have hB0 : BoxR w.heap.size #[.int .i64 2, .int .i64 (P : Int), .bool false, .string t, .slice none 0 0, .slice none 0 0, .slice none 0 0] (w.alloc (.cells #[.int .i64 2, .int .i64 (P : Int), .bool false, .string t, .slice none 0 0, .slice none 0 0, .slice none 0 0] 33 (0, 0))) := heap_alloc_new _ _
  go_region_held3 (fun w' => w'.cell? ⟨w.heap.size, 1, none⟩ = some (.int .i64 (P : Int)) ∧ BoxR w.heap.size #[.int .i64 2, .int .i64 (P : Int), .bool false, .string t, .slice none 0 0, .slice none 0 0, .slice none 0 0] w') (first | exact BoxR.two ‹_› | exact BoxR.two (BoxR.drew hB0)) ((go_at_call 174; refine (T1.out _).mono ?_; rintro e w8 ⟨rfl, hb⟩; have hB8 := BoxR.next (BoxR.drew hB0) hb; have hb8 : Below w.heap.size w w8 := bcall (by repeat (first | assumption | exact Below.refl _ _ | apply Below.drew | apply below_drewN | apply balloc | (refine Below.setCell ?_ (by first | omega | (simp <;> omega)) _))) hb; clear hb))
  obtain ⟨c0, c2, c3, c4, c5, c6⟩ := hB8.all
  have hlt8 := ltB hB8
  (go_wp2_with fail; repeat (any_goals (go_quiet (fail); go_wp2_with fail)))

  go_ret
  exact ⟨rfl, (by repeat (first | assumption | exact Below.refl _ _ | apply Below.drew | apply below_drewN | apply balloc | (refine Below.setCell ?_ (by first | omega | (simp <;> omega)) _)))⟩
set_option maxHeartbeats 2000000 in
set_option maxRecDepth 100000 in
theorem is_text (P : Nat) (t : ByteArray) (w : World) : Calls Tryz.prog 12 #[.iface 95 (.agg #[.int .i64 (P : Int), .string t]), .agg #[.int .i64 3, .int .i64 (P : Int), .bool false, .string t, .slice none 0 0, .slice none 0 0, .slice none 0 0]] w fun e w' => e = .returned (.bool true) ∧ Below w.heap.size w w' := by
  have T1 := Lib.hid (fun w => At_calls (P : Int) w)
  go_enter Tryz.func12, Tryz.ntmps12
  go_upto_region 1 with fail
  have hB0 : BoxR w.heap.size #[.int .i64 3, .int .i64 (P : Int), .bool false, .string t, .slice none 0 0, .slice none 0 0, .slice none 0 0] (w.alloc (.cells #[.int .i64 3, .int .i64 (P : Int), .bool false, .string t, .slice none 0 0, .slice none 0 0, .slice none 0 0] 33 (0, 0))) := heap_alloc_new _ _
  go_region_held3 (fun w' => w'.cell? ⟨w.heap.size, 1, none⟩ = some (.int .i64 (P : Int)) ∧ BoxR w.heap.size #[.int .i64 3, .int .i64 (P : Int), .bool false, .string t, .slice none 0 0, .slice none 0 0, .slice none 0 0] w') (first | exact BoxR.two ‹_› | exact BoxR.two (BoxR.drew hB0)) ((go_at_call 174; refine (T1.out _).mono ?_; rintro e w8 ⟨rfl, hb⟩; have hB8 := BoxR.next (BoxR.drew hB0) hb; have hb8 : Below w.heap.size w w8 := bcall (by repeat (first | assumption | exact Below.refl _ _ | apply Below.drew | apply below_drewN | apply balloc | (refine Below.setCell ?_ (by first | omega | (simp <;> omega)) _))) hb; clear hb))
  obtain ⟨c0, c2, c3, c4, c5, c6⟩ := hB8.all
  have hlt8 := ltB hB8
  (go_wp2_with fail; repeat (any_goals (go_quiet (fail); go_wp2_with fail)))

  go_ret
  exact ⟨rfl, (by repeat (first | assumption | exact Below.refl _ _ | apply Below.drew | apply below_drewN | apply balloc | (refine Below.setCell ?_ (by first | omega | (simp <;> omega)) _)))⟩

end Go.Proofs.YtibopkodoidjoaaGreatDoor

/- The statements of chapter 18: is, lists and objects. -/
namespace Go.Proofs.YtibopkodoidjoaaGreatDoor
open Go Go.RowKit

/-- is, at a node that stands in world w0 as the answered one and as the document's. -/
def IsC (w0 : World) (lo hi lo2 hi2 : Nat) (u : Value) (c : List Value) : Prop := ∀ w, (∀ k, lo ≤ k → k < hi → w.heap[k]? = w0.heap[k]?) → (∀ k, lo2 ≤ k → k < hi2 → w.heap[k]? = w0.heap[k]?) → hi ≤ w.heap.size → hi2 ≤ w.heap.size →
  Calls Tryz.prog 12 #[u, .agg c.toArray] w fun e w' => e = .returned (.bool true) ∧ Below w.heap.size w w'
theorem flat7 : ∀ (cs : List RKid) (j : Nat) (c : RKid) (i : Nat), (∀ c ∈ cs, c.u.length = 7) → cs[j]? = some c → i < 7 → (cs.flatMap RKid.u)[j * 7 + i]? = c.u[i]?
  | [], j, c, i, _, h, _ => by simp at h
  | a :: cs, 0, c, i, hl, h, hi => by
    simp at h
    subst h
    rw [List.flatMap_cons, List.getElem?_append_left (by rw [hl a (by simp)]; omega), Nat.zero_mul, Nat.zero_add]
  | a :: cs, j + 1, c, i, hl, h, hi => by
    rw [List.flatMap_cons, List.getElem?_append_right (by rw [hl a (by simp)]; omega), hl a (by simp), show (j + 1) * 7 + i - 7 = j * 7 + i by omega]
    exact flat7 cs j c i (fun c hc => hl c (by simp [hc])) (by simpa using h) hi
theorem cell_next {w w' : World} {g j : Nat} {v : Value} (h : w.cell? ⟨g, j, none⟩ = some v) (hg : g < w.heap.size) (hb : Below w.heap.size w w') : w'.cell? ⟨g, j, none⟩ = some v := (hb.cell (p := ⟨g, j, none⟩) hg).trans h
set_option maxHeartbeats 4000000 in
set_option maxRecDepth 100000 in
theorem is_lst {w0 : World} (lo hi lo2 hi2 P : Nat) (vr rv : Value) (cs : List Kid) (rcs : List RKid) (hr : w0.ownsRow lo 24 1 vr cs.length (cs.map Kid.u)) (hb0 : ∀ k, vr.ownBlock = some k → k < hi) (hk : ∀ c ∈ cs, lo ≤ c.l ∧ c.h ≤ hi)
    (hr2 : w0.ownsRow lo2 33 7 rv rcs.length (rcs.flatMap RKid.u)) (hb2 : ∀ k, rv.ownBlock = some k → k < hi2) (hk2 : ∀ c ∈ rcs, c.fits lo2 hi2) (hlen : rcs.length = cs.length)
    (hform : ∀ c ∈ cs, ∃ t a, c.u = .iface t a) (hform2 : ∀ c ∈ rcs, ∃ m p f t vi vk vp, c.u = rdC m p f t vi vk vp ∧ isSl vi ∧ isSl vk ∧ isSl vp)
    (ih : ∀ (j : Nat) (c : Kid) (rc : RKid), cs[j]? = some c → rcs[j]? = some rc → IsC w0 c.l c.h rc.l rc.h c.u rc.u) :
    IsC w0 lo hi lo2 hi2 (.iface 98 (.agg #[.int .i64 (P : Int), vr])) (rdC 4 P false noS rv (.slice none 0 0) (.slice none 0 0)) := by
  intro w hw hw2 hh hh2
  obtain ⟨m, hm⟩ : ∃ m, m = cs.length := ⟨_, rfl⟩
  rw [hlen] at hr2
  rw [← hm] at hr hr2 hlen
  have hl7 : ∀ c ∈ rcs, c.u.length = 7 := fun c hc => by
    obtain ⟨_, _, _, _, _, _, _, h, _⟩ := hform2 c hc
    rw [h]; rfl
  obtain ⟨va, vc, rfl⟩ := rowForm hr
  obtain ⟨ra, rc0, rfl⟩ := rowForm hr2
  have hnm : m ≤ maxLen := by
    rcases rowForm2 hr with ⟨h, _⟩ | ⟨g, cap, h, _, _, h1, h2⟩
    · omega
    · omega
  unfold maxLen at hnm
  have hnI : (m : Int) ≤ 9223372036854775807 := by omega
  have hr1 := Lib.hid (ownsRow_heap hr fun k e => hw k (hr.lt k e).1 (hb0 k e))
  have hr3 := Lib.hid (ownsRow_heap hr2 fun k e => hw2 k (hr2.lt k e).1 (hb2 k e))
  replace hr := Lib.hid hr
  replace hr2 := Lib.hid hr2
  replace hm := Lib.hid hm
  replace hlen := Lib.hid hlen
  replace hw := Lib.hid hw
  replace hw2 := Lib.hid hw2
  rw [rdC_arr]
  have T1 := Lib.hid (fun w => At_calls (P : Int) w)
  go_enter Tryz.func12, Tryz.ntmps12
  go_upto_region 1 with fail
  have hB0 : BoxR w.heap.size #[.int .i64 4, .int .i64 (P : Int), .bool false, .string noS, .slice ra m rc0, .slice none 0 0, .slice none 0 0] (w.alloc (.cells #[.int .i64 4, .int .i64 (P : Int), .bool false, .string noS, .slice ra m rc0, .slice none 0 0, .slice none 0 0] 33 (0, 0))) := heap_alloc_new _ _
  go_region_held3 (fun w' => w'.cell? ⟨w.heap.size, 1, none⟩ = some (.int .i64 (P : Int)) ∧ BoxR w.heap.size #[.int .i64 4, .int .i64 (P : Int), .bool false, .string noS, .slice ra m rc0, .slice none 0 0, .slice none 0 0] w') (first | exact BoxR.two ‹_› | exact BoxR.two (BoxR.drew hB0)) ((go_at_call 174; refine (T1.out _).mono ?_; rintro e w8 ⟨rfl, hb⟩; have hB8 := BoxR.next (BoxR.drew hB0) hb; have hb8 : Below w.heap.size w w8 := bcall (by repeat (first | assumption | exact Below.refl _ _ | apply Below.drew | apply below_drewN | apply balloc | (refine Below.setCell ?_ (by first | omega | (simp <;> omega)) _))) hb; clear hb))
  obtain ⟨c0, c2, c3, c4, c5, c6⟩ := hB8.all
  have hlt8 := ltB hB8
  replace hB8 := Lib.hid hB8
  go_wp2_with fail
  go_loopw [88] (fun v88 wr => ∃ k : Nat, k ≤ m ∧ v88 = .int .i64 (k : Int) ∧ Hid (BoxR w.heap.size #[.int .i64 4, .int .i64 (P : Int), .bool false, .string noS, .slice ra m rc0, .slice none 0 0, .slice none 0 0] wr) ∧ Below w.heap.size w wr) (fun v _ => m - (intOf v).toNat)
  case atStart => exact ⟨0, Nat.zero_le _, rfl, Lib.hid (hB8.out.next (balloc (Below.refl _ _))), (by repeat (first | assumption | exact Below.refl _ _ | apply Below.drew | apply below_drewN | apply balloc | (refine Below.setCell ?_ (by first | omega | (simp <;> omega)) _)))⟩
  case round =>
    obtain ⟨k, hkn, rfl, hBr, hbr⟩ := hrel
    clear c0 c2 c3 c4 c5 c6 hb8 hB8
    by_cases hlt : k < m
    · have hltI : (k : Int) < (m : Int) := by omega
      obtain ⟨c, hc⟩ : ∃ c, cs[k]? = some c := ⟨cs[k]'(by rw [← hm.out]; exact hlt), List.getElem?_eq_getElem _⟩
      obtain ⟨rc, hrc⟩ : ∃ rc, rcs[k]? = some rc := ⟨rcs[k]'(by rw [hlen.out]; exact hlt), List.getElem?_eq_getElem _⟩
      have hcm := List.mem_of_getElem? hc
      have hrm := List.mem_of_getElem? hrc
      obtain ⟨g, rfl⟩ : ∃ g, va = some ⟨g, 0, none⟩ := by
        rcases rowForm2 hr.out with ⟨h, _⟩ | ⟨g, cap, h, _⟩
        · omega
        · cases h; exact ⟨g, rfl⟩
      obtain ⟨rg, rfl⟩ : ∃ g, ra = some ⟨g, 0, none⟩ := by
        rcases rowForm2 hr2.out with ⟨h, _⟩ | ⟨g, cap, h, _⟩
        · omega
        · cases h; exact ⟨g, rfl⟩
      have hrm3 : m ≤ rc0 := by
        rcases rowForm2 hr2.out with ⟨h, _⟩ | ⟨g, cap, h, _, _, h5, _⟩
        · omega
        · cases h; exact h5
      have q0 := rowCells (row_below hr1.out hbr) (j := k) (u := c.u) (by rw [List.getElem?_map, hc]; rfl)
      obtain ⟨ut, ua, hu⟩ := hform c hcm
      obtain ⟨m2, p2, f2, t2, vi2, vk2, vp2, hu2, ⟨a1, n1, c1, rfl⟩, ⟨a2, n2, c2, rfl⟩, ⟨a3, n3, c3, rfl⟩⟩ := hform2 rc hrm
      have hq : ∀ i u, i < 7 → rc.u[i]? = some u → wr.cell? ⟨rg, k * 7 + i, none⟩ = some u := fun i u hi h => rowCells (row_below hr3.out hbr) ((flat7 rcs k rc i hl7 hrc hi).trans h)
      rw [hu2] at hq
      have s0 : wr.cell? ⟨rg, k * 7, none⟩ = _ := hq 0 _ (by decide) rfl
      have s1 := hq 1 _ (by decide) rfl
      have s2 := hq 2 _ (by decide) rfl
      have s3 := hq 3 _ (by decide) rfl
      have s4 := hq 4 _ (by decide) rfl
      have s5 := hq 5 _ (by decide) rfl
      have s6 := hq 6 _ (by decide) rfl
      clear hq
      have b4 := cellB hBr.out 4 rfl
      have hcf := hk c hcm
      have hrf := hk2 rc hrm
      have IC := ih k c rc hc hrc wr (fun j a d => (hbr.block j (by have := hcf.2; omega)).trans (hw.out j (Nat.le_trans hcf.1 a) (Nat.lt_of_lt_of_le d hcf.2))) (fun j a d => (hbr.block j (by have := hrf.2.2; omega)).trans (hw2.out j (Nat.le_trans hrf.1 a) (Nat.lt_of_lt_of_le d hrf.2.2))) (by have := hcf.2; have := hbr.size; omega) (by have := hrf.2.2; have := hbr.size; omega)
      rw [hu2, hu, rdC_arr] at IC
      replace IC := Lib.hid IC
      rw [hu] at q0
      replace hu := Lib.hid hu
      replace hu2 := Lib.hid hu2
      replace hc := Lib.hid hc
      replace hrc := Lib.hid hrc
      go_wp2_with fail
      refine IC.out.mono ?_
      rintro e w3 ⟨rfl, hb⟩
      have hBr3 := Lib.hid (hBr.out.next hb)
      have hbr3 := hbr.trans (hb.mono hbr.size)
      clear hb q0 s0 s1 s2 s3 s4 s5 s6 b4
      go_wp2_with fail
      go_roundw
      case measure => simp [intOf]; omega
      case rel => exact ⟨k + 1, by omega, by go_num, hBr3, hbr3⟩
    · obtain rfl : m = k := by omega
      have hlt' : ¬ (m : Int) < (m : Int) := by omega
      go_wp2_with fail
      go_ret
      exact ⟨rfl, hbr⟩

end Go.Proofs.YtibopkodoidjoaaGreatDoor

/- The statements of chapter 18: is, objects; is whole. -/
namespace Go.Proofs.YtibopkodoidjoaaGreatDoor
open Go Go.RowKit

theorem cell_in {w : World} {g j : Nat} {v : Value} (h : w.cell? ⟨g, j, none⟩ = some v) : g < w.heap.size := by
  rcases Nat.lt_or_ge g w.heap.size with h1 | h1
  · exact h1
  · simp [World.cell?, Array.getElem?_eq_none h1] at h
theorem cell_b {w w' : World} {g j : Nat} {v : Value} (h : w.cell? ⟨g, j, none⟩ = some v) (hb : Below w.heap.size w w') : w'.cell? ⟨g, j, none⟩ = some v := cell_next h (cell_in h) hb
set_option maxHeartbeats 8000000 in
set_option maxRecDepth 100000 in
theorem is_obj {w0 : World} (lo hi lo2 hi2 P : Nat) (vr rv rk rp : Value) (cs : List Kid) (rcs : List RKid) (hr : w0.ownsRow lo 103 3 vr cs.length (cs.flatMap memC)) (hb0 : ∀ k, vr.ownBlock = some k → k < hi) (hk : ∀ c ∈ cs, lo ≤ c.l ∧ c.h ≤ hi)
    (hR : R3 lo2 w0 rv rk rp rcs) (hb2 : ∀ k, rv.ownBlock = some k → k < hi2) (hb3 : ∀ k, rk.ownBlock = some k → k < hi2) (hb4 : ∀ k, rp.ownBlock = some k → k < hi2) (hk2 : ∀ c ∈ rcs, c.fits lo2 hi2) (hlen : rcs.length = cs.length)
    (hform : ∀ c ∈ cs, ∃ t a, c.u = .iface t a) (hform2 : ∀ c ∈ rcs, ∃ m p f t vi vk vp, c.u = rdC m p f t vi vk vp ∧ isSl vi ∧ isSl vk ∧ isSl vp)
    (hsame : ∀ (j : Nat) (c : Kid) (rc : RKid), cs[j]? = some c → rcs[j]? = some rc → c.key = rc.key ∧ c.pl = rc.pl)
    (ih : ∀ (j : Nat) (c : Kid) (rc : RKid), cs[j]? = some c → rcs[j]? = some rc → IsC w0 c.l c.h rc.l rc.h c.u rc.u) :
    IsC w0 lo hi lo2 hi2 (.iface 101 (.agg #[.int .i64 (P : Int), vr])) (rdC 5 P false noS rv rk rp) := by
  intro w hw hw2 hh hh2
  obtain ⟨m, hm⟩ : ∃ m, m = cs.length := ⟨_, rfl⟩
  have hr2 := hR.i
  have hrk := hR.k
  have hrp := hR.p
  rw [hlen] at hr2 hrk hrp
  rw [← hm] at hr hr2 hrk hrp hlen
  have hl7 : ∀ c ∈ rcs, c.u.length = 7 := fun c hc => by
    obtain ⟨_, _, _, _, _, _, _, h, _⟩ := hform2 c hc
    rw [h]; rfl
  obtain ⟨va, vc, rfl⟩ := rowForm hr
  obtain ⟨ia, ic, rfl⟩ := rowForm hr2
  obtain ⟨ka, kc, rfl⟩ := rowForm hrk
  obtain ⟨pa, pc, rfl⟩ := rowForm hrp
  have hnm : m ≤ maxLen := by
    rcases rowForm2 hr with ⟨h, _⟩ | ⟨g, cap, h, _, _, h1, h2⟩
    · omega
    · omega
  unfold maxLen at hnm
  have hnI : (m : Int) ≤ 9223372036854775807 := by omega
  have hr1 := Lib.hid (ownsRow_heap hr fun k e => hw k (hr.lt k e).1 (hb0 k e))
  have hr3 := Lib.hid (ownsRow_heap hr2 fun k e => hw2 k (hr2.lt k e).1 (hb2 k e))
  have hrk3 := Lib.hid (ownsRow_heap hrk fun k e => hw2 k (hrk.lt k e).1 (hb3 k e))
  have hrp3 := Lib.hid (ownsRow_heap hrp fun k e => hw2 k (hrp.lt k e).1 (hb4 k e))
  clear hR hr2 hrk hrp hr
  replace hm := Lib.hid hm
  replace hlen := Lib.hid hlen
  replace hw := Lib.hid hw
  replace hw2 := Lib.hid hw2
  rw [rdC_arr]
  have T1 := Lib.hid (fun w => At_calls (P : Int) w)
  go_enter Tryz.func12, Tryz.ntmps12
  go_upto_region 1 with fail
  have hB0 : BoxR w.heap.size #[.int .i64 5, .int .i64 (P : Int), .bool false, .string noS, .slice ia m ic, .slice ka m kc, .slice pa m pc] (w.alloc (.cells #[.int .i64 5, .int .i64 (P : Int), .bool false, .string noS, .slice ia m ic, .slice ka m kc, .slice pa m pc] 33 (0, 0))) := heap_alloc_new _ _
  go_region_held3 (fun w' => w'.cell? ⟨w.heap.size, 1, none⟩ = some (.int .i64 (P : Int)) ∧ BoxR w.heap.size #[.int .i64 5, .int .i64 (P : Int), .bool false, .string noS, .slice ia m ic, .slice ka m kc, .slice pa m pc] w') (first | exact BoxR.two ‹_› | exact BoxR.two (BoxR.drew hB0)) ((go_at_call 174; refine (T1.out _).mono ?_; rintro e w8 ⟨rfl, hb⟩; have hB8 := BoxR.next (BoxR.drew hB0) hb; have hb8 : Below w.heap.size w w8 := bcall (by repeat (first | assumption | exact Below.refl _ _ | apply Below.drew | apply below_drewN | apply balloc | (refine Below.setCell ?_ (by first | omega | (simp <;> omega)) _))) hb; clear hb))
  obtain ⟨c0, c2, c3, c4, c5, c6⟩ := hB8.all
  have hlt8 := ltB hB8
  replace hB8 := Lib.hid hB8
  go_wp2_with fail
  go_loopw [120] (fun v120 wr => ∃ k : Nat, k ≤ m ∧ v120 = .int .i64 (k : Int) ∧ Hid (BoxR w.heap.size #[.int .i64 5, .int .i64 (P : Int), .bool false, .string noS, .slice ia m ic, .slice ka m kc, .slice pa m pc] wr) ∧ Below w.heap.size w wr) (fun v _ => m - (intOf v).toNat)
  case atStart => exact ⟨0, Nat.zero_le _, rfl, Lib.hid (hB8.out.next (balloc (Below.refl _ _))), (by repeat (first | assumption | exact Below.refl _ _ | apply Below.drew | apply below_drewN | apply balloc | (refine Below.setCell ?_ (by first | omega | (simp <;> omega)) _)))⟩
  case round =>
    obtain ⟨k, hkn, rfl, hBr, hbr⟩ := hrel
    clear c0 c2 c3 c4 c5 c6 hb8 hB8
    by_cases hlt : k < m
    · have hltI : (k : Int) < (m : Int) := by omega
      obtain ⟨c, hc⟩ : ∃ c, cs[k]? = some c := ⟨cs[k]'(by rw [← hm.out]; exact hlt), List.getElem?_eq_getElem _⟩
      obtain ⟨rc, hrc⟩ : ∃ rc, rcs[k]? = some rc := ⟨rcs[k]'(by rw [hlen.out]; exact hlt), List.getElem?_eq_getElem _⟩
      have hcm := List.mem_of_getElem? hc
      have hrm := List.mem_of_getElem? hrc
      obtain ⟨g, rfl⟩ : ∃ g, va = some ⟨g, 0, none⟩ := by
        rcases rowForm2 hr1.out with ⟨h, _⟩ | ⟨g, cap, h, _⟩
        · omega
        · cases h; exact ⟨g, rfl⟩
      obtain ⟨ig, rfl⟩ : ∃ g, ia = some ⟨g, 0, none⟩ := by
        rcases rowForm2 hr3.out with ⟨h, _⟩ | ⟨g, cap, h, _⟩
        · omega
        · cases h; exact ⟨g, rfl⟩
      obtain ⟨kg, rfl⟩ : ∃ g, ka = some ⟨g, 0, none⟩ := by
        rcases rowForm2 hrk3.out with ⟨h, _⟩ | ⟨g, cap, h, _⟩
        · omega
        · cases h; exact ⟨g, rfl⟩
      obtain ⟨pg, rfl⟩ : ∃ g, pa = some ⟨g, 0, none⟩ := by
        rcases rowForm2 hrp3.out with ⟨h, _⟩ | ⟨g, cap, h, _⟩
        · omega
        · cases h; exact ⟨g, rfl⟩
      obtain ⟨q0, q1, q2⟩ := rowMem (row_below hr1.out hbr) hc
      obtain ⟨ut, ua, hu⟩ := hform c hcm
      obtain ⟨m2, p2, f2, t2, vi2, vk2, vp2, hu2, ⟨a1, n1, c1, rfl⟩, ⟨a2, n2, c2, rfl⟩, ⟨a3, n3, c3, rfl⟩⟩ := hform2 rc hrm
      have hq : ∀ i u, i < 7 → rc.u[i]? = some u → wr.cell? ⟨ig, k * 7 + i, none⟩ = some u := fun i u hi h => rowCells (row_below hr3.out hbr) ((flat7 rcs k rc i hl7 hrc hi).trans h)
      rw [hu2] at hq
      have s0 : wr.cell? ⟨ig, k * 7, none⟩ = _ := hq 0 _ (by decide) rfl
      have s1 := hq 1 _ (by decide) rfl
      have s2 := hq 2 _ (by decide) rfl
      have s3 := hq 3 _ (by decide) rfl
      have s4 := hq 4 _ (by decide) rfl
      have s5 := hq 5 _ (by decide) rfl
      have s6 := hq 6 _ (by decide) rfl
      clear hq
      have sk := rowCells (row_below hrk3.out hbr) (j := k) (u := .string rc.key) (by rw [List.getElem?_map, hrc]; rfl)
      have sp := rowCells (row_below hrp3.out hbr) (j := k) (u := .int .i64 (rc.pl : Int)) (by rw [List.getElem?_map, hrc]; rfl)
      obtain ⟨hkey, hpl⟩ := hsame k c rc hc hrc
      rw [← hkey] at sk
      rw [← hpl] at sp
      have b4 := cellB hBr.out 4 rfl
      have b5 := cellB hBr.out 5 rfl
      have b6 := cellB hBr.out 6 rfl
      have hcf := hk c hcm
      have hrf := hk2 rc hrm
      have IC := fun w' (hB : Below w.heap.size w w') => ih k c rc hc hrc w' (fun j a d => (hB.block j (by have := hcf.2; omega)).trans (hw.out j (Nat.le_trans hcf.1 a) (Nat.lt_of_lt_of_le d hcf.2))) (fun j a d => (hB.block j (by have := hrf.2.2; omega)).trans (hw2.out j (Nat.le_trans hrf.1 a) (Nat.lt_of_lt_of_le d hrf.2.2))) (by have := hcf.2; have := hB.size; omega) (by have := hrf.2.2; have := hB.size; omega)
      rw [hu2, hu, rdC_arr] at IC
      replace IC := Lib.hid IC
      rw [hu] at q2
      generalize c.key = key at *
      generalize c.pl = pl at *
      replace hu := Lib.hid hu
      replace hu2 := Lib.hid hu2
      replace hc := Lib.hid hc
      replace hrc := Lib.hid hrc
      replace hkey := Lib.hid hkey
      replace hpl := Lib.hid hpl
      go_upto_region 34 with fail
      have hbA : Below wr.heap.size wr (wr.alloc (.cells #[.string key, .int .i64 (pl : Int), .iface ut ua] 103 (0, 0))) := balloc (Below.refl _ _)
      have hmA := heap_alloc_new wr (.cells #[.string key, .int .i64 (pl : Int), .iface ut ua] 103 (0, 0))
      obtain ⟨mg, hmg⟩ : ∃ mg, mg = wr.heap.size := ⟨_, rfl⟩
      rw [← hmg] at hmA ⊢
      generalize wr.alloc (.cells #[.string key, .int .i64 (pl : Int), .iface ut ua] 103 (0, 0)) = wA at hbA hmA ⊢
      have oh : Hid (∀ w', Below wA.heap.size wA w' → (w'.cell? ⟨mg, 0, none⟩ = some (.string key) ∧ w'.cell? ⟨mg, 1, none⟩ = some (.int .i64 (pl : Int)) ∧ w'.cell? ⟨mg, 2, none⟩ = some (.iface ut ua) ∧ w'.cell? ⟨w.heap.size, 4, none⟩ = some (.slice (some ⟨ig, 0, none⟩) m ic) ∧ w'.cell? ⟨w.heap.size, 5, none⟩ = some (.slice (some ⟨kg, 0, none⟩) m kc) ∧ w'.cell? ⟨w.heap.size, 6, none⟩ = some (.slice (some ⟨pg, 0, none⟩) m pc) ∧ w'.cell? ⟨kg, k, none⟩ = some (.string key) ∧ w'.cell? ⟨pg, k, none⟩ = some (.int .i64 (pl : Int)) ∧ w'.cell? ⟨ig, k * 7, none⟩ = some (.int .i64 (m2 : Int)) ∧ w'.cell? ⟨ig, k * 7 + 1, none⟩ = some (.int .i64 (p2 : Int)) ∧ w'.cell? ⟨ig, k * 7 + 2, none⟩ = some (.bool f2) ∧ w'.cell? ⟨ig, k * 7 + 3, none⟩ = some (.string t2) ∧ w'.cell? ⟨ig, k * 7 + 4, none⟩ = some (.slice a1 n1 c1) ∧ w'.cell? ⟨ig, k * 7 + 5, none⟩ = some (.slice a2 n2 c2) ∧ w'.cell? ⟨ig, k * 7 + 6, none⟩ = some (.slice a3 n3 c3) ∧ Below wA.heap.size wA w')) := Lib.hid (fun w' hb => ⟨cell_b (cellB hmA 0 rfl) hb, cell_b (cellB hmA 1 rfl) hb, cell_b (cellB hmA 2 rfl) hb, cell_b (cell_b b4 hbA) hb, cell_b (cell_b b5 hbA) hb, cell_b (cell_b b6 hbA) hb, cell_b (cell_b sk hbA) hb, cell_b (cell_b sp hbA) hb, cell_b (cell_b s0 hbA) hb, cell_b (cell_b s1 hbA) hb, cell_b (cell_b s2 hbA) hb, cell_b (cell_b s3 hbA) hb, cell_b (cell_b s4 hbA) hb, cell_b (cell_b s5 hbA) hb, cell_b (cell_b s6 hbA) hb, hb⟩)
      have hBA := Lib.hid (hBr.out.next hbA)
      have hwA : Below w.heap.size w wA := bcall hbr hbA
      replace hmg := Lib.hid hmg
      replace hmA := Lib.hid hmA
      clear q0 q1 q2 s0 s1 s2 s3 s4 s5 s6 sk sp b4 b5 b6 hBr hbA hbr
      go_region_held3 (fun w' => w'.cell? ⟨mg, 0, none⟩ = some (.string key) ∧ w'.cell? ⟨mg, 1, none⟩ = some (.int .i64 (pl : Int)) ∧ w'.cell? ⟨mg, 2, none⟩ = some (.iface ut ua) ∧ w'.cell? ⟨w.heap.size, 4, none⟩ = some (.slice (some ⟨ig, 0, none⟩) m ic) ∧ w'.cell? ⟨w.heap.size, 5, none⟩ = some (.slice (some ⟨kg, 0, none⟩) m kc) ∧ w'.cell? ⟨w.heap.size, 6, none⟩ = some (.slice (some ⟨pg, 0, none⟩) m pc) ∧ w'.cell? ⟨kg, k, none⟩ = some (.string key) ∧ w'.cell? ⟨pg, k, none⟩ = some (.int .i64 (pl : Int)) ∧ w'.cell? ⟨ig, k * 7, none⟩ = some (.int .i64 (m2 : Int)) ∧ w'.cell? ⟨ig, k * 7 + 1, none⟩ = some (.int .i64 (p2 : Int)) ∧ w'.cell? ⟨ig, k * 7 + 2, none⟩ = some (.bool f2) ∧ w'.cell? ⟨ig, k * 7 + 3, none⟩ = some (.string t2) ∧ w'.cell? ⟨ig, k * 7 + 4, none⟩ = some (.slice a1 n1 c1) ∧ w'.cell? ⟨ig, k * 7 + 5, none⟩ = some (.slice a2 n2 c2) ∧ w'.cell? ⟨ig, k * 7 + 6, none⟩ = some (.slice a3 n3 c3) ∧ Below wA.heap.size wA w') (first | exact oh.out _ ‹_› | exact oh.out _ (Below.drew (Below.refl _ _))) ((go_at_call 12; refine (IC.out _ (by first | exact hwA | exact Below.drew hwA)).mono ?_; rintro e w9 ⟨rfl, hb⟩; have hb9 : Below wA.heap.size wA w9 := bcall (Below.drew (Below.refl _ _)) hb; clear hb))
      have hBr9 := Lib.hid (hBA.out.next hb9)
      have hbr9 : Below w.heap.size w w9 := bcall hwA hb9
      clear oh IC
      go_wp2_with fail
      go_roundw
      case measure => simp [intOf]; omega
      case rel => exact ⟨k + 1, by omega, by go_num, hBr9, hbr9⟩
    · obtain rfl : m = k := by omega
      have hlt' : ¬ (m : Int) < (m : Int) := by omega
      go_wp2_with fail
      go_ret
      exact ⟨rfl, hbr⟩
theorem is_calls {w0 : World} {lo hi : Nat} {u : Value} {x : Nd} (h : OwnN w0 lo hi u x) : ∀ {lo2 hi2 : Nat} {c : List Value}, OwnR w0 lo2 hi2 c x → IsC w0 lo hi lo2 hi2 u c := by
  induction h with
  | null lo hi p => intro lo2 hi2 c h2; cases h2; exact fun w _ _ _ _ => is_null p w
  | flag lo hi p b => intro lo2 hi2 c h2; cases h2; exact fun w _ _ _ _ => is_flag p b w
  | num lo hi p t => intro lo2 hi2 c h2; cases h2; exact fun w _ _ _ _ => is_num p t w
  | text lo hi p t => intro lo2 hi2 c h2; cases h2; exact fun w _ _ _ _ => is_text p t w
  | lst lo hi p v cs ho hb hk hp hc ih =>
    intro lo2 hi2 c h2
    generalize hxs : cs.map Kid.x = xs at h2
    cases h2 with
    | lst _ _ _ rv rcs ho2 hb2 hk2 hc2 =>
      have hlen : rcs.length = cs.length := by have := congrArg List.length hxs; simpa using this.symm
      refine is_lst lo hi lo2 hi2 p v rv cs rcs ho hb (fun c hm => ⟨(hk c hm).1, (hk c hm).2.2.1⟩) ho2 hb2 hk2 hlen (fun c hm => (hc c hm).form) (fun c hm => (hc2 c hm).form) (fun j c rc h1 h2 => ?_)
      have hx : c.x = rc.x := by
        have := congrArg (fun l => l[j]?) hxs
        simpa [List.getElem?_map, h1, h2] using this
      exact ih c (List.mem_of_getElem? h1) (hx ▸ hc2 rc (List.mem_of_getElem? h2))
  | obj lo hi p v cs ho hb hk hp hc ih =>
    intro lo2 hi2 c h2
    generalize hxs : cs.map Kid.mem = xs at h2
    cases h2 with
    | obj _ _ _ rv rk rp rcs ho2 hb2 ho3 hb3 ho4 hb4 hk2 hc2 =>
      have hlen : rcs.length = cs.length := by have := congrArg List.length hxs; simpa using this.symm
      have hx : ∀ (j : Nat) (c : Kid) (rc : RKid), cs[j]? = some c → rcs[j]? = some rc → c.key = rc.key ∧ c.pl = rc.pl ∧ c.x = rc.x := fun j c rc h1 h2 => by
        have := congrArg (fun l => l[j]?) hxs
        simpa [List.getElem?_map, h1, h2, Kid.mem, RKid.mem] using this
      refine is_obj lo hi lo2 hi2 p v rv rk rp cs rcs ho hb (fun c hm => ⟨(hk c hm).1, (hk c hm).2.2.1⟩) ⟨ho2, ho3, ho4⟩ hb2 hb3 hb4 hk2 hlen (fun c hm => (hc c hm).form) (fun c hm => (hc2 c hm).form) (fun j c rc h1 h2 => ⟨(hx j c rc h1 h2).1, (hx j c rc h1 h2).2.1⟩) (fun j c rc h1 h2 => ?_)
      exact ih c (List.mem_of_getElem? h1) ((hx j c rc h1 h2).2.2 ▸ hc2 rc (List.mem_of_getElem? h2))

end Go.Proofs.YtibopkodoidjoaaGreatDoor

/- The statements of chapter 18: spoil. -/
namespace Go.Proofs.YtibopkodoidjoaaGreatDoor
open Go Go.RowKit

/-- A world behind another: of what was there only blocks lo .. hi have turned. -/
structure Sp (lo hi : Nat) (w w' : World) : Prop where
  os : w'.os = w.os
  tape : w'.tape = w.tape
  output : w'.output = w.output
  size : w.heap.size ≤ w'.heap.size
  block : ∀ k, k < w.heap.size → k < lo ∨ hi ≤ k → w'.heap[k]? = w.heap[k]?
theorem Sp.of {lo hi : Nat} {w w' : World} (hb : Below w.heap.size w w') : Sp lo hi w w' := ⟨hb.os, hb.tape, hb.output, hb.size, fun k h _ => hb.block k h⟩
theorem Sp.below {lo hi : Nat} {w w' w'' : World} (h : Sp lo hi w w') (hb : Below w'.heap.size w' w'') : Sp lo hi w w'' := ⟨hb.os.trans h.os, hb.tape.trans h.tape, hb.output.trans h.output, Nat.le_trans h.size hb.size, fun k h1 h2 => (hb.block k (Nat.lt_of_lt_of_le h1 h.size)).trans (h.block k h1 h2)⟩
theorem Sp.sub {lo hi l h : Nat} {w w' w'' : World} (h1 : Sp lo hi w w') (h2 : Sp l h w' w'') (hl : lo ≤ l) (hh : h ≤ hi) : Sp lo hi w w'' :=
  ⟨h2.os.trans h1.os, h2.tape.trans h1.tape, h2.output.trans h1.output, Nat.le_trans h1.size h2.size, fun k k1 k2 => (h2.block k (Nat.lt_of_lt_of_le k1 h1.size) (by omega)).trans (h1.block k k1 k2)⟩
theorem Sp.grown {lo hi g : Nat} {w w' w'' : World} (h1 : Sp lo hi w w') (h2 : w'.grownBy w'' (some g)) (hl : lo ≤ g) (hh : g < hi) : Sp lo hi w w'' :=
  ⟨h2.os.trans h1.os, h2.tape.trans h1.tape, h2.output.trans h1.output, Nat.le_trans h1.size h2.size, fun k k1 k2 => (h2.block k (Nat.lt_of_lt_of_le k1 h1.size) (fun e => by have := Option.some.inj e; omega)).trans (h1.block k k1 k2)⟩
theorem Sp.keep {lo hi g : Nat} {w w' : World} {o : Obj} (h : Sp lo hi w w') (hg : w.heap[g]? = some o) (hn : g < lo ∨ hi ≤ g) : w'.heap[g]? = some o := (h.block g (ltB hg) hn).trans hg
/-- What is asked of spoil at a node that lies in world w0. -/
def SpC (w0 : World) (lo hi : Nat) (u : Value) : Prop := ∀ w, (∀ k, lo ≤ k → k < hi → w.heap[k]? = w0.heap[k]?) → hi ≤ w.heap.size →
  Calls Tryz.prog 13 #[u] w fun e w' => e = .returned (.tuple #[]) ∧ Sp lo hi w w'
/-- The row's cells from j on are as they were. -/
def RowK (va : Option Addr) (e : TypeId) (xs : List Value) (k : Nat) (w : World) : Prop := ∀ g, va = some ⟨g, 0, none⟩ → ∃ cur : Array Value, w.heap[g]? = some (.cells cur e (0, 0)) ∧ xs.length ≤ cur.size ∧ ∀ j u, k ≤ j → xs[j]? = some u → cur[j]? = some u
theorem RowK.cell {va : Option Addr} {e : TypeId} {xs : List Value} {k g j : Nat} {u : Value} {w : World} (h : RowK va e xs k w) (hg : va = some ⟨g, 0, none⟩) (hj : k ≤ j) (hu : xs[j]? = some u) : w.cell? ⟨g, j, none⟩ = some u := by
  obtain ⟨cur, h1, _, h2⟩ := h g hg
  exact cellB h1 j (h2 j u hj hu)
theorem RowK.free {va : Option Addr} {e : TypeId} {xs : List Value} {k g j : Nat} {w : World} (h : RowK va e xs k w) (hg : va = some ⟨g, 0, none⟩) : w.frozen? ⟨g, j, none⟩ = false := by
  obtain ⟨cur, h1, _⟩ := h g hg
  exact freeB h1 j
theorem RowK.keep {va : Option Addr} {e : TypeId} {xs : List Value} {k : Nat} {w w' : World} (h : RowK va e xs k w) (hk : ∀ g, va = some ⟨g, 0, none⟩ → w'.heap[g]? = w.heap[g]?) : RowK va e xs k w' := by
  intro g hg
  obtain ⟨cur, h1, h2⟩ := h g hg
  exact ⟨cur, (hk g hg).trans h1, h2⟩
theorem RowK.lt {va : Option Addr} {e : TypeId} {xs : List Value} {k g : Nat} {w : World} (h : RowK va e xs k w) (hg : va = some ⟨g, 0, none⟩) : g < w.heap.size := by
  obtain ⟨cur, h1, _⟩ := h g hg
  exact ltB h1
theorem RowK.set {va : Option Addr} {e : TypeId} {xs : List Value} {k g : Nat} {w : World} (h : RowK va e xs k w) (hg : va = some ⟨g, 0, none⟩) (j k' : Nat) (v : Value) (hk : k ≤ k') (hj : j < k') : RowK va e xs k' (w.setCell ⟨g, j, none⟩ v) := by
  intro g' hg'
  rw [hg] at hg'
  cases hg'
  obtain ⟨cur, h1, h2, h3⟩ := h g hg
  refine ⟨cur.setIfInBounds j v, by rw [Lib.heap_setCell_same (i := j) h1], by simpa using h2, fun i u hi hu => ?_⟩
  rw [Array.getElem?_setIfInBounds_ne (by omega)]
  exact h3 i u (by omega) hu
end Go.Proofs.YtibopkodoidjoaaGreatDoor

/- errors.As at the target **api.At, the error an *api.At: Go's own text walked. (Lines of the kit's worked example of errors.As, turned to this program.) -/
namespace Go.Proofs.YtibopkodoidjoaaGreatDoor
open Go Go.RowKit Go.Extern.Stop Go.Stop Go.Extern

theorem asvalueOf27 (t : Addr) (w : World) : (ReflectliteValue.unpack (.iface 84 (.pointer (some t)))).run Tryz.prog w
    = .ok (.agg #[.pointer (some ⟨28, 84, none⟩), .pointer (some ⟨w.heap.size, 0, none⟩), .int .u64 150]) (w.alloc (.cells #[.pointer (some t)] 84)) := by kernel_rfl
theorem astype27 (a : Addr) (w : World) : (ReflectliteValue.methodAny (ReflectliteValue.valueError "reflectlite.Value.Type" 0) (fun t _ _ _ => ReflectliteType.toType t) #[.agg #[.pointer (some ⟨28, 84, none⟩), .pointer (some a), .int .u64 150]]).run Tryz.prog w
    = .ok (.iface 169 (.agg #[.pointer (some ⟨28, 84, none⟩)])) w := by kernel_rfl
theorem asmethodKind (d : Nat) (h : Value) (w : World) : (Go.method (d + 8) 169 (.agg #[h]) "Kind").run Tryz.prog w = .ok (169, h) w := by kernel_rfl
theorem askind27 (w : World) : ((ReflectliteType.abiMethod fun t => (fun a : Nat => Value.int IntKind.u8 (a : Int)) <$> Rtype.kind t) #[.pointer (some ⟨28, 84, none⟩)]).run Tryz.prog w = .ok (.int .u8 22) w := by kernel_rfl
theorem askind25 (w : World) : ((ReflectliteType.abiMethod fun t => (fun a : Nat => Value.int IntKind.u8 (a : Int)) <$> Rtype.kind t) #[.pointer (some ⟨28, 69, none⟩)]).run Tryz.prog w = .ok (.int .u8 22) w := by kernel_rfl

theorem rlm (z : Sem Value) (f : TypeId → Addr → Nat → Nat → Sem Value) (v : Value) :
    ReflectliteValue.method z f #[v] = (do match ← ReflectliteValue.parts v with | none => z | some (t, a, fl) => f t a fl (fl % 32)) := rfl
theorem asparts27 (a : Addr) (w : World) : (ReflectliteValue.parts (.agg #[.pointer (some ⟨28, 84, none⟩), .pointer (some a), .int .u64 150])).run Tryz.prog w = .ok (some (84, a, 150)) w := by kernel_rfl
theorem asisNil27 (a p : Addr) (W : World) (ha : W.cell? a = some (.pointer (some p))) :
    (ReflectliteValue.method (ReflectliteValue.valueError "reflectlite.Value.IsNil" 0) ReflectliteValue.isNil #[.agg #[.pointer (some ⟨28, 84, none⟩), .pointer (some a), .int .u64 150]]).run Tryz.prog W = .ok (.bool false) W := by
  rw [rlm]
  simp only [Sem.run_bind, asparts27, Result.andThen]
  simp [ReflectliteValue.isNil, loadVar, isAgg, underlying, Tryz.underlying84, ha, Result.andThen]

theorem asmethodElem (d : Nat) (h : Value) (w : World) : (Go.method (d + 8) 169 (.agg #[h]) "Elem").run Tryz.prog w = .ok (181, .agg #[h]) w := by kernel_rfl
theorem asmethodImplements (d : Nat) (h : Value) (w : World) : (Go.method (d + 8) 169 (.agg #[h]) "Implements").run Tryz.prog w = .ok (182, .agg #[h]) w := by kernel_rfl
theorem asmethodAssignableTo (d : Nat) (h : Value) (w : World) : (Go.method (d + 8) 169 (.agg #[h]) "AssignableTo").run Tryz.prog w = .ok (179, .agg #[h]) w := by kernel_rfl
theorem aselem27 (w : World) : (ReflectliteType.method ReflectliteType.elem #[.agg #[.pointer (some ⟨28, 84, none⟩)]]).run Tryz.prog w = .ok (.iface 169 (.agg #[.pointer (some ⟨28, 69, none⟩)])) w := by kernel_rfl
theorem asimplements25 (w : World) : (ReflectliteType.relation "Implements" ReflectliteType.implements_ #[.agg #[.pointer (some ⟨28, 69, none⟩)], .iface 169 (.agg #[.pointer (some ⟨28, 26, none⟩)])]).run Tryz.prog w = .ok (.bool true) w := by kernel_rfl
theorem astypeOf25 (v : Value) (w : World) : (ReflectliteType.typeOf #[.iface 69 v]).run Tryz.prog w = .ok (.iface 169 (.agg #[.pointer (some ⟨28, 69, none⟩)])) w := by kernel_rfl
theorem asassignable25 (w : World) : (ReflectliteType.relation "AssignableTo" ReflectliteType.assignableTo #[.agg #[.pointer (some ⟨28, 69, none⟩)], .iface 169 (.agg #[.pointer (some ⟨28, 69, none⟩)])]).run Tryz.prog w = .ok (.bool true) w := by kernel_rfl
theorem asvalueOf25 (e : Addr) (w : World) : (ReflectliteValue.unpack (.iface 69 (.pointer (some e)))).run Tryz.prog w
    = .ok (.agg #[.pointer (some ⟨28, 69, none⟩), .pointer (some ⟨w.heap.size, 0, none⟩), .int .u64 150]) (w.alloc (.cells #[.pointer (some e)] 69)) := by kernel_rfl

theorem aselemOf27 (w : World) : (Rtype.elem? 84).run Tryz.prog w = .ok (some 69) w := by kernel_rfl
theorem asmk25 (p : Addr) (w : World) : (ReflectliteValue.mk 69 p ReflectliteValue.flagAddr).run Tryz.prog w = .ok (.agg #[.pointer (some ⟨28, 69, none⟩), .pointer (some p), .int .u64 406]) w := by kernel_rfl
theorem aselemV27 (a p : Addr) (W : World) (ha : W.cell? a = some (.pointer (some p))) :
    (ReflectliteValue.method (ReflectliteValue.valueError "reflectlite.Value.Elem" 0) ReflectliteValue.elem #[.agg #[.pointer (some ⟨28, 84, none⟩), .pointer (some a), .int .u64 150]]).run Tryz.prog W
      = .ok (.agg #[.pointer (some ⟨28, 69, none⟩), .pointer (some p), .int .u64 406]) W := by
  rw [rlm]
  simp only [Sem.run_bind, asparts27, Result.andThen]
  simp [ReflectliteValue.elem, loadVar, isAgg, underlying, Tryz.underlying84, ha, Result.andThen, aselemOf27, asmk25]
theorem rls (v x : Value) : ReflectliteValue.set #[v, x] = (do
    let (some (dst, a, fl), some (src, b, _)) := (← ReflectliteValue.parts v, ← ReflectliteValue.parts x)
      | unsupported (.noEntry "extern/(internal/reflectlite.Value).Set.zeroValue")
    if fl / ReflectliteValue.flagAddr % 2 == 0 then unsupported (.noEntry "extern/(internal/reflectlite.Value).Set.unaddressable")
    let val ← loadVar src b
    if ← Rtype.directlyAssignable dst src then storeVar dst a val
    else if ← Rtype.implements dst src then
      if (← Rtype.kind src) == 20 then
        match val with
        | .nilIface => unsupported (.noEntry "extern/reflectlite: a nil value of one interface type handed on as a value of another")
        | _ => storeVar dst a val
      else storeVar dst a (.iface src val)
    else panicString ("reflectlite.Set: value of type " ++ (← Rtype.spelt src) ++ " is not assignable to type " ++ (← Rtype.spelt dst))
    pure (.tuple #[])) := rfl
theorem asparts25a (a : Addr) (w : World) : (ReflectliteValue.parts (.agg #[.pointer (some ⟨28, 69, none⟩), .pointer (some a), .int .u64 406])).run Tryz.prog w = .ok (some (69, a, 406)) w := by kernel_rfl
theorem asparts25 (a : Addr) (w : World) : (ReflectliteValue.parts (.agg #[.pointer (some ⟨28, 69, none⟩), .pointer (some a), .int .u64 150])).run Tryz.prog w = .ok (some (69, a, 150)) w := by kernel_rfl
theorem asdirect25 (w : World) : (Rtype.directlyAssignable 69 69).run Tryz.prog w = .ok true w := by kernel_rfl
theorem asset25 (ta b e : Addr) (old : Value) (W : World) (hb : W.cell? b = some (.pointer (some e))) (ht : W.cell? ta = some old) (hf : W.frozen? ta = false) :
    (ReflectliteValue.set #[.agg #[.pointer (some ⟨28, 69, none⟩), .pointer (some ta), .int .u64 406], .agg #[.pointer (some ⟨28, 69, none⟩), .pointer (some b), .int .u64 150]]).run Tryz.prog W
      = .ok (.tuple #[]) (W.setCell ta (.pointer (some e))) := by
  rw [rls]
  simp only [Sem.run_bind, asparts25a, asparts25, Result.andThen]
  simp [ReflectliteValue.flagAddr, loadVar, isAgg, underlying, Tryz.underlying69, hb, Result.andThen, asdirect25, storeVar, Value.cells, storeCells, Addr.add]
  rw [run_store Tryz.prog W ta _ _ (by rfl)]
  simp [ht, hf]

set_option maxHeartbeats 4000000 in
theorem as_hit (e t : Addr) (old : Value) (w : World) (hg : w.cell? ⟨2, 0, none⟩ = some (.iface 169 (.agg #[.pointer (some ⟨28, 26, none⟩)]))) (ht0 : w.cell? t = some old) (hf0 : w.frozen? t = false) :
    Calls Tryz.prog 37 #[.iface 69 (.pointer (some e)), .iface 84 (.pointer (some t))] w fun ev w' => ev = .returned (.bool true) ∧ w' = ((((w.alloc (.cells #[.pointer (some t)] 84)).alloc (.cells #[.pointer (some ⟨28, 84, none⟩), .pointer (some ⟨w.heap.size, 0, none⟩), .int .u64 150] 132)).alloc (.cells #[.pointer (some ⟨28, 84, none⟩), .pointer (some ⟨w.heap.size, 0, none⟩), .int .u64 150] 132)).alloc (.cells #[.pointer (some e)] 69)).setCell t (.pointer (some e)) := by
  have h6 := @run_callFunc_extern Tryz.prog 64 _ (fun args => ReflectliteValue.unpack (args.getD 0 (.tuple #[]))) Tryz.func64 (by kernel_rfl) (by kernel_rfl) (by kernel_rfl) (by kernel_rfl)
  have h7 := @run_callFunc_extern Tryz.prog 65 _ (ReflectliteValue.methodAny (ReflectliteValue.valueError "reflectlite.Value.Type" 0) (fun t _ _ _ => ReflectliteType.toType t)) Tryz.func65 (by kernel_rfl) (by kernel_rfl) (by kernel_rfl) (by kernel_rfl)
  have h8 := @run_callFunc_extern Tryz.prog 66 _ (ReflectliteValue.method (ReflectliteValue.valueError "reflectlite.Value.IsNil" 0) ReflectliteValue.isNil) Tryz.func66 (by kernel_rfl) (by kernel_rfl) (by kernel_rfl) (by kernel_rfl)
  have h27 := @run_callFunc_extern Tryz.prog 169 _ (ReflectliteType.abiMethod fun t => do pure (.int .u8 (← Rtype.kind t))) Tryz.func169 (by kernel_rfl) (by kernel_rfl) (by kernel_rfl) (by kernel_rfl)
  have h37 := @run_callFunc_extern Tryz.prog 181 _ (ReflectliteType.method ReflectliteType.elem) Tryz.func181 (by kernel_rfl) (by kernel_rfl) (by kernel_rfl) (by kernel_rfl)
  have h38 := @run_callFunc_extern Tryz.prog 182 _ (ReflectliteType.relation "Implements" ReflectliteType.implements_) Tryz.func182 (by kernel_rfl) (by kernel_rfl) (by kernel_rfl) (by kernel_rfl)
  have h10 := @run_callFunc_extern Tryz.prog 85 _ ReflectliteType.typeOf Tryz.func85 (by kernel_rfl) (by kernel_rfl) (by kernel_rfl) (by kernel_rfl)
  have h35 := @run_callFunc_extern Tryz.prog 179 _ (ReflectliteType.relation "AssignableTo" ReflectliteType.assignableTo) Tryz.func179 (by kernel_rfl) (by kernel_rfl) (by kernel_rfl) (by kernel_rfl)
  have h11 := @run_callFunc_extern Tryz.prog 86 _ (ReflectliteValue.method (ReflectliteValue.valueError "reflectlite.Value.Elem" 0) ReflectliteValue.elem) Tryz.func86 (by kernel_rfl) (by kernel_rfl) (by kernel_rfl) (by kernel_rfl)
  have h12 := @run_callFunc_extern Tryz.prog 87 _ ReflectliteValue.set Tryz.func87 (by kernel_rfl) (by kernel_rfl) (by kernel_rfl) (by kernel_rfl)
  have tO := astypeOf25
  have mA := asmethodAssignableTo
  have a25 := asassignable25
  have v25 := asvalueOf25
  have f6 := asvalueOf27
  have f7 := astype27
  have mK := asmethodKind
  have mE := asmethodElem
  have mI := asmethodImplements
  have k27 := askind27
  have k25 := askind25
  have e27 := aselem27
  have i25 := asimplements25
  have n8 := asisNil27 ⟨w.heap.size, 0, none⟩ t ((w.alloc (.cells #[.pointer (some t)] 84)).alloc (.cells #[.pointer (some ⟨28, 84, none⟩), .pointer (some ⟨w.heap.size, 0, none⟩), .int .u64 150] 132)) (by simp)
  have hlt : 2 < w.heap.size := by
    rcases Nat.lt_or_ge 2 w.heap.size with h | h
    · exact h
    · simp [World.cell?, Array.getElem?_eq_none h] at hg
  have hg2 : ((w.alloc (.cells #[.pointer (some t)] 84)).alloc (.cells #[.pointer (some ⟨28, 84, none⟩), .pointer (some ⟨w.heap.size, 0, none⟩), .int .u64 150] 132)).cell? ⟨2, 0, none⟩ = some (.iface 169 (.agg #[.pointer (some ⟨28, 26, none⟩)])) := by
    rw [World.cell?_alloc_lt _ _ ⟨2, 0, none⟩ (by simp <;> omega), World.cell?_alloc_lt _ _ ⟨2, 0, none⟩ hlt]; exact hg
  have htl : t.block < w.heap.size := by
    rcases Nat.lt_or_ge t.block w.heap.size with h | h
    · exact h
    · simp [World.cell?, Array.getElem?_eq_none h] at ht0
  have el := aselemV27 ⟨w.heap.size, 0, none⟩ t (((w.alloc (.cells #[.pointer (some t)] 84)).alloc (.cells #[.pointer (some ⟨28, 84, none⟩), .pointer (some ⟨w.heap.size, 0, none⟩), .int .u64 150] 132)).alloc (.cells #[.pointer (some ⟨28, 84, none⟩), .pointer (some ⟨w.heap.size, 0, none⟩), .int .u64 150] 132)) (by rw [World.cell?_alloc_lt _ _ ⟨w.heap.size, 0, none⟩ (by simp; omega)]; simp)
  have st := asset25 t ⟨w.heap.size + 1 + 1 + 1, 0, none⟩ e old ((((w.alloc (.cells #[.pointer (some t)] 84)).alloc (.cells #[.pointer (some ⟨28, 84, none⟩), .pointer (some ⟨w.heap.size, 0, none⟩), .int .u64 150] 132)).alloc (.cells #[.pointer (some ⟨28, 84, none⟩), .pointer (some ⟨w.heap.size, 0, none⟩), .int .u64 150] 132)).alloc (.cells #[.pointer (some e)] 69))
    (by rw [World.cell?_alloc_at _ _ _ _ (by simp)]; rfl)
    (by rw [World.cell?_alloc_lt _ _ t (by simp; omega), World.cell?_alloc_lt _ _ t (by simp; omega), World.cell?_alloc_lt _ _ t (by simp; omega), World.cell?_alloc_lt _ _ t htl]; exact ht0)
    (by rw [World.frozen?_alloc_old _ _ t (by simp; omega), World.frozen?_alloc_old _ _ t (by simp; omega), World.frozen?_alloc_old _ _ t (by simp; omega), World.frozen?_alloc_old _ _ t (Nat.ne_of_lt htl)]; exact hf0)
  go_enter Tryz.func37, Tryz.ntmps37
  go_wp2
  refine wp_loop_rounds 1 ?_
  rw [rounds_succ]
  go_wp2
  go_ret
  exact ⟨rfl, rfl⟩

end Go.Proofs.YtibopkodoidjoaaGreatDoor

/- The statements of chapter 18: errors.As as a contract; lives. -/
namespace Go.Proofs.YtibopkodoidjoaaGreatDoor
open Go Go.RowKit

/-- The package variables, and that of package errors. -/
structure EnvA (A : Nat → Addr) (B : Nat) (w : World) : Prop where
  env : Env A B SVN w
  et : w.cell? ⟨2, 0, none⟩ = some (.iface 169 (.agg #[.pointer (some ⟨28, 26, none⟩)]))
  lt : 2 < B
theorem EnvA.next {A : Nat → Addr} {B : Nat} {w w' : World} (h : EnvA A B w) (hb : Below w.heap.size w w') : EnvA A B w' :=
  ⟨h.env.next hb, (hb.cell (p := ⟨_, _, none⟩) (Nat.lt_of_lt_of_le h.lt h.env.hB)).trans h.et, h.lt⟩
theorem EnvA.below {A : Nat → Addr} {B : Nat} {w w' : World} (h : EnvA A B w) (hb : Below B w w') : EnvA A B w' :=
  ⟨h.env.below hb, (hb.cell (p := ⟨_, _, none⟩) h.lt).trans h.et, h.lt⟩
theorem As_calls {A : Nat → Addr} {B : Nat} (g t : Nat) (old : Value) (w : World) (hE : EnvA A B w) (ht : w.heap[t]? = some (.cells #[old] 69 (0, 0))) :
    Calls Tryz.prog 37 #[.iface 69 (.pointer (some ⟨g, 0, none⟩)), .iface 84 (.pointer (some ⟨t, 0, none⟩))] w fun e w' => e = .returned (.bool true) ∧
      w'.heap[t]? = some (.cells #[.pointer (some ⟨g, 0, none⟩)] 69 (0, 0)) ∧ w.grownBy w' (some t) := by
  refine (as_hit ⟨g, 0, none⟩ ⟨t, 0, none⟩ old w hE.et (cellB ht 0 rfl) (freeB ht 0)).mono ?_
  rintro e w' ⟨rfl, rfl⟩
  refine ⟨rfl, ?_, ?_⟩
  · rw [Lib.heap_setCell_same (i := 0) (box_next (box_next (box_next (box_next ht ((Below.refl _ _).alloc (Nat.le_refl _) _)) ((Below.refl _ _).alloc (Nat.le_refl _) _)) ((Below.refl _ _).alloc (Nat.le_refl _) _)) ((Below.refl _ _).alloc (Nat.le_refl _) _))]
    rfl
  · exact grown_trans (grown_trans (grown_trans (grown_trans (World.grownBy_alloc _ _ _) (World.grownBy_alloc _ _ _)) (World.grownBy_alloc _ _ _)) (World.grownBy_alloc _ _ _)) (grown_set _ _ _ _)
/-- Two errors with places, and the two variables that errors.As fills. -/
structure AsS (A : Nat → Addr) (B : Nat) (w : World) (b1 b2 g1 g2 k : Nat) (p1 p2 : Int) (x1 x2 : Value) (W : World) : Prop where
  env : EnvA A B W
  bel : Below w.heap.size w W
  h1 : W.heap[b1]? = some (.cells #[x1] 69 (0, 0))
  h2 : W.heap[b2]? = some (.cells #[x2] 69 (0, 0))
  a1 : AtB p1 (.iface 237 (.pointer (some (A k)))) g1 W
  a2 : AtB p2 (.iface 237 (.pointer (some (A k)))) g2 W
  lt : w.heap.size ≤ b1 ∧ b1 < b2 ∧ g1 < b1 ∧ g2 < b1 ∧ B ≤ w.heap.size
theorem AsS.next {A : Nat → Addr} {B : Nat} {w : World} {b1 b2 g1 g2 k : Nat} {p1 p2 : Int} {x1 x2 : Value} {W W' : World} (h : AsS A B w b1 b2 g1 g2 k p1 p2 x1 x2 W) (hb : Below W.heap.size W W') : AsS A B w b1 b2 g1 g2 k p1 p2 x1 x2 W' :=
  ⟨h.env.next hb, bcall h.bel hb, box_next h.h1 hb, box_next h.h2 hb, box_next h.a1 hb, box_next h.a2 hb, h.lt⟩
theorem AsS.one {A : Nat → Addr} {B : Nat} {w : World} {b1 b2 g1 g2 k : Nat} {p1 p2 : Int} {x1 x2 y : Value} {W W' : World} (h : AsS A B w b1 b2 g1 g2 k p1 p2 x1 x2 W) (hy : W'.heap[b1]? = some (.cells #[y] 69 (0, 0))) (hg : W.grownBy W' (some b1)) : AsS A B w b1 b2 g1 g2 k p1 p2 y x2 W' := by
  obtain ⟨l1, l2, l3, l4, l5⟩ := h.lt
  have hW := h.bel.size
  have k1 := ltB h.h2
  refine ⟨h.env.below (grown_below hg (by omega) (by omega)), h.bel.trans (grown_below hg (by omega) (by omega)), hy, (hg.block b2 k1 (fun e => by have := Option.some.inj e; omega)).trans h.h2, ?_, ?_, h.lt⟩
  · exact (hg.block g1 (ltB h.a1) (fun e => by have := Option.some.inj e; omega)).trans h.a1
  · exact (hg.block g2 (ltB h.a2) (fun e => by have := Option.some.inj e; omega)).trans h.a2
theorem AsS.two {A : Nat → Addr} {B : Nat} {w : World} {b1 b2 g1 g2 k : Nat} {p1 p2 : Int} {x1 x2 y : Value} {W W' : World} (h : AsS A B w b1 b2 g1 g2 k p1 p2 x1 x2 W) (hy : W'.heap[b2]? = some (.cells #[y] 69 (0, 0))) (hg : W.grownBy W' (some b2)) : AsS A B w b1 b2 g1 g2 k p1 p2 x1 y W' := by
  obtain ⟨l1, l2, l3, l4, l5⟩ := h.lt
  have hW := h.bel.size
  have k1 := ltB h.h1
  refine ⟨h.env.below (grown_below hg (by omega) (by omega)), h.bel.trans (grown_below hg (by omega) (by omega)), (hg.block b1 k1 (fun e => by have := Option.some.inj e; omega)).trans h.h1, hy, ?_, ?_, h.lt⟩
  · exact (hg.block g1 (ltB h.a1) (fun e => by have := Option.some.inj e; omega)).trans h.a1
  · exact (hg.block g2 (ltB h.a2) (fun e => by have := Option.some.inj e; omega)).trans h.a2
theorem AsS.cells {A : Nat → Addr} {B : Nat} {w : World} {b1 b2 g1 g2 k : Nat} {p1 p2 : Int} {x1 x2 : Value} {W : World} (h : AsS A B w b1 b2 g1 g2 k p1 p2 x1 x2 W) :
    W.cell? ⟨b1, 0, none⟩ = some x1 ∧ W.cell? ⟨b2, 0, none⟩ = some x2 ∧ W.cell? ⟨g1, 1, none⟩ = some (.iface 237 (.pointer (some (A k)))) ∧ W.cell? ⟨g2, 1, none⟩ = some (.iface 237 (.pointer (some (A k)))) :=
  ⟨cellB h.h1 0 rfl, cellB h.h2 0 rfl, cellB h.a1 1 rfl, cellB h.a2 1 rfl⟩
def fix1 : ByteArray := ⟨#[91, 49, 44, 32, 34, 97, 34, 93]⟩
def fix2 : ByteArray := ⟨#[32, 123, 125, 32]⟩
theorem fix1_ok : parseS fix1 = .ok (.lst 0 [.num 1 ⟨#[49]⟩, .text 4 ⟨#[97]⟩]) 5 := by kernel_rfl
theorem fix1_form : formS fix1 = ⟨#[91, 49, 44, 34, 97, 34, 93]⟩ := by kernel_rfl
theorem fix2_ok : parseS fix2 = .ok (.obj 1 []) 2 := by kernel_rfl
set_option maxHeartbeats 1000000 in
set_option maxRecDepth 100000 in
theorem lives_calls {A : Nat → Addr} {B : Nat} (w : World) (hE : Env A B SVN w) : Calls Tryz.prog 8 #[] w fun e w' => e = .returned (.bool true) ∧ Below w.heap.size w w' := by
  have F : Hid (∀ w, Env A B SVN w → Calls Tryz.prog 15 #[.string ⟨#[91, 49, 44, 32, 34, 97, 34, 93]⟩] w fun e w' => e = .returned (.tuple #[.string ⟨#[91, 49, 44, 34, 97, 34, 93]⟩, .nilIface]) ∧ Below w.heap.size w w') := Lib.hid (fun w h => by
    refine (Format_calls fix1 w h (by decide)).mono ?_
    rintro e w' ⟨hr, hb⟩
    rw [fix1_ok, fix1_form] at hr
    exact ⟨hr, hb⟩)
  have N : Hid (∀ w, Env A B SVN w → Calls Tryz.prog 16 #[.string ⟨#[32, 123, 125, 32]⟩] w fun e w' => e = .returned (.tuple #[.string ⟨#[111, 98, 106, 101, 99, 116]⟩, .nilIface]) ∧ Below w.heap.size w w') := Lib.hid (fun w h => by
    refine (Name_calls fix2 w h (by decide)).mono ?_
    rintro e w' ⟨hr, hb⟩
    rw [fix2_ok] at hr
    exact ⟨hr, hb⟩)
  go_enter Tryz.func8, Tryz.ntmps8
  (go_wp2_with fail; repeat (any_goals (go_quiet (fail); go_wp2_with fail)))
  refine (F.out _ (hE.next (by repeat (first | assumption | exact Below.refl _ _ | apply Below.drew | apply below_drewN | apply balloc | (refine Below.setCell ?_ (by first | omega | (simp <;> omega)) _))))).mono ?_
  rintro e w1 ⟨rfl, hb⟩
  have hb1 : Below w.heap.size w w1 := bcall (by repeat (first | assumption | exact Below.refl _ _ | apply Below.drew | apply below_drewN | apply balloc | (refine Below.setCell ?_ (by first | omega | (simp <;> omega)) _))) hb
  clear hb
  (go_wp2_with fail; repeat (any_goals (go_quiet (fail); go_wp2_with fail)))
  refine (N.out _ (hE.next hb1)).mono ?_
  rintro e w2 ⟨rfl, hb⟩
  have hb2 : Below w.heap.size w w2 := bcall hb1 hb
  clear hb
  (go_wp2_with fail; repeat (any_goals (go_quiet (fail); go_wp2_with fail)))
  go_ret
  exact ⟨rfl, hb2⟩

end Go.Proofs.YtibopkodoidjoaaGreatDoor

/- The statements of chapter 18: at. -/
namespace Go.Proofs.YtibopkodoidjoaaGreatDoor
open Go Go.RowKit

theorem al_keepA {W : World} {g : Nat} {o o' : Obj} (h : W.heap[g]? = some o) : (W.alloc o').heap[g]? = some o := (((Below.refl W.heap.size W).alloc (Nat.le_refl _) o').block g (ltB h)).trans h
theorem gr_keepA {W w1 : World} {g b : Nat} {o : Obj} (hg : W.grownBy w1 (some b)) (h : W.heap[g]? = some o) (hne : g ≠ b) : w1.heap[g]? = some o := (hg.block g (ltB h) (fun e => by have := Option.some.inj e; omega)).trans h
set_option maxHeartbeats 2000000 in
set_option maxRecDepth 100000 in
theorem at_err {A : Nat → Addr} {B : Nat} (k pl g : Nat) (w : World) (hE : EnvA A B w) (hk0 : 1 ≤ k) (hk : k ≤ 19) (hat : AtB (pl : Int) (.iface 237 (.pointer (some (A k)))) g w) :
    Calls Tryz.prog 11 #[.iface 69 (.pointer (some ⟨g, 0, none⟩)), .int .i64 (pl : Int), .int .i64 (k : Int)] w fun e w' => e = .returned (.bool true) ∧ Below w.heap.size w w' := by
  have hgl := ltB hat
  have h1 : ((k : Int) == 0) = false := by simp; omega
  have h1' : ¬ (k : Int) = 0 := by omega
  replace hE := Lib.hid hE
  replace hat := Lib.hid hat
  go_enter Tryz.func11, Tryz.ntmps11
  (go_wp2_with fail; repeat (any_goals (go_quiet (fail); go_wp2_with fail)))
  refine (As_calls g w.heap.size _ _ (hE.out.next (by repeat (first | assumption | exact Below.refl _ _ | apply Below.drew | apply below_drewN | apply balloc | (refine Below.setCell ?_ (by first | omega | (simp <;> omega)) _)))) (heap_alloc_new w _)).mono ?_
  rintro e w1 ⟨rfl, ht, hg⟩
  have hat1 := gr_keepA hg (al_keepA hat.out) (by omega)
  have c0 := cellB hat1 0 rfl
  have c1 := cellB hat1 1 rfl
  have t0 := cellB ht 0 rfl
  have hb1 : Below w.heap.size w w1 := Below.grown (balloc (Below.refl _ _)) hg (by simp) (fun k e => by cases e; exact Nat.le_refl _)
  go_wp2_with fail
  refine (Num_err k w1 hk0 hk (hE.out.next hb1).env).mono ?_
  rintro e w2 ⟨rfl, hb⟩
  have hb2 : Below w.heap.size w w2 := bcall hb1 hb
  clear hb
  (go_wp2_with fail; repeat (any_goals (go_quiet (fail); go_wp2_with fail)))
  go_ret
  exact ⟨rfl, hb2⟩

end Go.Proofs.YtibopkodoidjoaaGreatDoor
