/- Decimal digits: the reference of chapter 2. -/
import Derived.Test.YtnldhgkmbighkaaGreatDoorDigPlain
namespace Go.Proofs.YtnldhgkmbighkaaGreatDoor
open Go Go.RowKit

/-- Digits still to come, digits that stand. -/
def DecRel (N X : Nat) (l : List UInt8) (kq : Nat) : Prop :=
  (l = [] ∧ X = N ∧ X < 10 ^ kq ∧ 0 < kq) ∨ (l ≠ [] ∧ 0 < X ∧ Lib.decDigits X ++ l = Lib.decDigits N ∧ X < 10 ^ kq) ∨ (l ≠ [] ∧ X = 0 ∧ l = Lib.decDigits N)
theorem decRel_step {N X : Nat} {l : List UInt8} {kq : Nat} (h : DecRel N X l (kq + 1)) (h0 : l = [] ∨ 0 < X) : DecRel N (X / 10) (UInt8.ofNat (48 + X % 10) :: l) kq := by
  have hd : Lib.decDigits X = if X < 10 then [UInt8.ofNat (48 + X)] else Lib.decDigits (X / 10) ++ [UInt8.ofNat (48 + X % 10)] := by rw [Lib.decDigits]; split <;> rfl
  have key : Lib.decDigits X ++ l = Lib.decDigits N ∧ X < 10 ^ (kq + 1) := by
    rcases h with ⟨rfl, rfl, h2, h3⟩ | ⟨h1, h2, h3, h4⟩ | ⟨h1, h2, h3⟩
    · exact ⟨List.append_nil _, h2⟩
    · exact ⟨h3, h4⟩
    · rcases h0 with h0 | h0
      · exact absurd h0 h1
      · omega
  rw [hd] at key
  by_cases hx : X < 10
  · rw [if_pos hx] at key
    refine Or.inr (Or.inr ⟨by simp, by omega, ?_⟩)
    rw [Nat.mod_eq_of_lt hx]
    exact key.1
  · rw [if_neg hx] at key
    refine Or.inr (Or.inl ⟨by simp, by omega, ?_, ?_⟩)
    · rw [← key.1]; simp
    · have := key.2
      rw [Nat.pow_succ] at this
      omega
theorem str_cons (X : Nat) (S : ByteArray) : (strOfNums [48 + (X : Int) % 10] ++ S).data.toList = UInt8.ofNat (48 + X % 10) :: S.data.toList := by
  have e : (48 + (X : Int) % 10).toNat = 48 + X % 10 := by omega
  simp only [strOfNums, List.map_cons, List.map_nil, e]
  simp
theorem str_one (X : Nat) : (strOfNums [48 + (X : Int) % 10]).size = 1 := rfl
set_option maxHeartbeats 2000000 in
set_option maxRecDepth 100000 in
theorem Decimal_calls (n : Int) (w : World) (h0 : -9223372036854775808 ≤ n) (h1 : n ≤ 9223372036854775807) :
    Calls Tryz.prog 32 #[.int .i64 n] w fun e w' => e = .returned (.string ⟨(Lib.itoa n).toArray⟩) ∧ Below w.heap.size w w' := by
  obtain ⟨r, hr⟩ : ∃ r, r = Lib.itoa n := ⟨_, rfl⟩
  rw [← hr]
  replace hr := Lib.hid hr
  by_cases hn : n < 0
  · obtain ⟨N, hN⟩ : ∃ N : Nat, n = -(N : Int) := ⟨n.natAbs, by omega⟩
    have hwr : IntKind.u64.wrap (-IntKind.u64.wrap n) = (N : Int) := by
      simp [IntKind.wrap, IntKind.signed, IntKind.bits]; omega
    have hNb : N ≤ 9223372036854775808 := by omega
    replace hN := Lib.hid hN
    go_enter Tryz.func32, Tryz.ntmps32
    go_wp2_with fail
    clear hwr
    go_loopg [3, 4] 20 (fun kq v3 v4 w' => ∃ (X : Nat) (S : ByteArray), v3 = .int .u64 (X : Int) ∧ v4 = .string S ∧ Hid (DecRel N X S.data.toList kq ∧ X < 18446744073709551616) ∧ Hid (S.size + kq = 20) ∧ Below w.heap.size w w')
    case atStart => exact ⟨N, ⟨#[]⟩, rfl, rfl, Lib.hid ⟨Or.inl ⟨rfl, rfl, by omega, by decide⟩, by omega⟩, Lib.hid rfl, (by repeat (first | assumption | exact Below.refl _ _ | apply Below.drew | apply below_drewN | apply balloc | (refine Below.setCell ?_ (by first | omega | (simp <;> omega)) _)))⟩
    case round =>
      obtain ⟨X, S, rfl, rfl, H, HL, hB⟩ := hrel
      have hX := H.out.2
      have hX' : (X : Int) ≤ 18446744073709551615 := by omega
      have hSz : (S.size : Int) ≤ 20 := by have := HL.out; omega
      by_cases hgo : S.data.toList = [] ∨ 0 < X
      · obtain ⟨kq, rfl⟩ : ∃ k, gk = k + 1 := ⟨gk - 1, by
          rcases H.out.1 with ⟨_, _, _, h3⟩ | ⟨_, h2, _, h4⟩ | ⟨h1, h2, _⟩
          · omega
          · rcases Nat.eq_zero_or_pos gk with h | h
            · rw [h] at h4; simp at h4; omega
            · omega
          · rcases hgo with h | h
            · exact absurd h h1
            · omega⟩
        have HS := Lib.hid (decRel_step H.out.1 hgo)
        have hsc := Lib.hid (str_cons X S)
        have hq : ((strOfNums [48 + (X : Int) % 10]).size : Int) ≤ 1 := by rw [str_one]; decide
        have hlen := HL.out
        replace hlen := Lib.hid hlen
        by_cases hS : S.toList = []
        · obtain rfl := nil_of_toList hS
          replace hgo := Lib.hid hgo
          clear hS
          (go_wp2_with fail; repeat (any_goals (go_quiet (fail); go_wp2_with fail)))
          go_roundg kq
          case measure => omega
          case rel => exact ⟨X / 10, strOfNums [48 + (X : Int) % 10] ++ ⟨#[]⟩, by go_num, rfl, Lib.hid ⟨by rw [hsc.out]; exact HS.out, by omega⟩, Lib.hid (by have := hlen.out; rw [ByteArray.size_append, str_one]; omega), (by repeat (first | assumption | exact Below.refl _ _ | apply Below.drew | apply below_drewN | apply balloc | (refine Below.setCell ?_ (by first | omega | (simp <;> omega)) _)))⟩
        · have hS2 : S.toList.isEmpty = false := by simpa using hS
          have hpos : 0 < X := by
            rcases hgo with h | h
            · exact absurd (by rw [Lib.toList_data]; exact h) hS
            · exact h
          replace hgo := Lib.hid hgo
          (go_wp2_with fail; repeat (any_goals (go_quiet (fail); go_wp2_with fail)))
          go_roundg kq
          case measure => omega
          case rel => exact ⟨X / 10, strOfNums [48 + (X : Int) % 10] ++ S, by go_num, rfl, Lib.hid ⟨by rw [hsc.out]; exact HS.out, by omega⟩, Lib.hid (by have := hlen.out; rw [ByteArray.size_append, str_one]; omega), (by repeat (first | assumption | exact Below.refl _ _ | apply Below.drew | apply below_drewN | apply balloc | (refine Below.setCell ?_ (by first | omega | (simp <;> omega)) _)))⟩
      · have hl : S.data.toList = Lib.decDigits N := by
          rcases H.out.1 with ⟨h, _⟩ | ⟨_, h2, _⟩ | ⟨_, _, h3⟩
          · exact absurd (Or.inl h) hgo
          · exact absurd (Or.inr h2) hgo
          · exact h3
        have hS : ¬ S.toList = [] := fun h => hgo (Or.inl (by rw [← Lib.toList_data]; exact h))
        have hS2 : S.toList.isEmpty = false := by simpa using hS
        have hX0 : X = 0 := by
          rcases Nat.eq_zero_or_pos X with h | h
          · exact h
          · exact absurd (Or.inr h) hgo
        subst hX0
        replace hl := Lib.hid hl
        clear hgo hX'
        (go_wp2_with fail; repeat (any_goals (go_quiet (fail); go_wp2_with fail)))
        go_ret
        refine ⟨ret_str ?_, (by repeat (first | assumption | exact Below.refl _ _ | apply Below.drew | apply below_drewN | apply balloc | (refine Below.setCell ?_ (by first | omega | (simp <;> omega)) _)))⟩
        rw [hr.out, Lib.itoa]
        apply text_ext
        rw [if_pos hn, show n.natAbs = N by have := hN.out; omega]
        simp [hl.out]
  · obtain ⟨N, hN⟩ : ∃ N : Nat, n = (N : Int) := ⟨n.toNat, by omega⟩
    subst hN
    have hNb : N ≤ 9223372036854775807 := by omega
    go_enter Tryz.func32, Tryz.ntmps32
    go_wp2_with fail
    go_loopg [3, 4] 20 (fun kq v3 v4 w' => ∃ (X : Nat) (S : ByteArray), v3 = .int .u64 (X : Int) ∧ v4 = .string S ∧ Hid (DecRel N X S.data.toList kq ∧ X < 18446744073709551616) ∧ Hid (S.size + kq = 20) ∧ Below w.heap.size w w')
    case atStart => exact ⟨N, ⟨#[]⟩, rfl, rfl, Lib.hid ⟨Or.inl ⟨rfl, rfl, by omega, by decide⟩, by omega⟩, Lib.hid rfl, (by repeat (first | assumption | exact Below.refl _ _ | apply Below.drew | apply below_drewN | apply balloc | (refine Below.setCell ?_ (by first | omega | (simp <;> omega)) _)))⟩
    case round =>
      obtain ⟨X, S, rfl, rfl, H, HL, hB⟩ := hrel
      have hX := H.out.2
      have hX' : (X : Int) ≤ 18446744073709551615 := by omega
      have hSz : (S.size : Int) ≤ 20 := by have := HL.out; omega
      by_cases hgo : S.data.toList = [] ∨ 0 < X
      · obtain ⟨kq, rfl⟩ : ∃ k, gk = k + 1 := ⟨gk - 1, by
          rcases H.out.1 with ⟨_, _, _, h3⟩ | ⟨_, h2, _, h4⟩ | ⟨h1, h2, _⟩
          · omega
          · rcases Nat.eq_zero_or_pos gk with h | h
            · rw [h] at h4; simp at h4; omega
            · omega
          · rcases hgo with h | h
            · exact absurd h h1
            · omega⟩
        have HS := Lib.hid (decRel_step H.out.1 hgo)
        have hsc := Lib.hid (str_cons X S)
        have hq : ((strOfNums [48 + (X : Int) % 10]).size : Int) ≤ 1 := by rw [str_one]; decide
        have hlen := HL.out
        replace hlen := Lib.hid hlen
        by_cases hS : S.toList = []
        · obtain rfl := nil_of_toList hS
          replace hgo := Lib.hid hgo
          clear hS
          (go_wp2_with fail; repeat (any_goals (go_quiet (fail); go_wp2_with fail)))
          go_roundg kq
          case measure => omega
          case rel => exact ⟨X / 10, strOfNums [48 + (X : Int) % 10] ++ ⟨#[]⟩, by go_num, rfl, Lib.hid ⟨by rw [hsc.out]; exact HS.out, by omega⟩, Lib.hid (by have := hlen.out; rw [ByteArray.size_append, str_one]; omega), (by repeat (first | assumption | exact Below.refl _ _ | apply Below.drew | apply below_drewN | apply balloc | (refine Below.setCell ?_ (by first | omega | (simp <;> omega)) _)))⟩
        · have hS2 : S.toList.isEmpty = false := by simpa using hS
          have hpos : 0 < X := by
            rcases hgo with h | h
            · exact absurd (by rw [Lib.toList_data]; exact h) hS
            · exact h
          replace hgo := Lib.hid hgo
          (go_wp2_with fail; repeat (any_goals (go_quiet (fail); go_wp2_with fail)))
          go_roundg kq
          case measure => omega
          case rel => exact ⟨X / 10, strOfNums [48 + (X : Int) % 10] ++ S, by go_num, rfl, Lib.hid ⟨by rw [hsc.out]; exact HS.out, by omega⟩, Lib.hid (by have := hlen.out; rw [ByteArray.size_append, str_one]; omega), (by repeat (first | assumption | exact Below.refl _ _ | apply Below.drew | apply below_drewN | apply balloc | (refine Below.setCell ?_ (by first | omega | (simp <;> omega)) _)))⟩
      · have hl : S.data.toList = Lib.decDigits N := by
          rcases H.out.1 with ⟨h, _⟩ | ⟨_, h2, _⟩ | ⟨_, _, h3⟩
          · exact absurd (Or.inl h) hgo
          · exact absurd (Or.inr h2) hgo
          · exact h3
        have hS : ¬ S.toList = [] := fun h => hgo (Or.inl (by rw [← Lib.toList_data]; exact h))
        have hS2 : S.toList.isEmpty = false := by simpa using hS
        have hX0 : X = 0 := by
          rcases Nat.eq_zero_or_pos X with h | h
          · exact h
          · exact absurd (Or.inr h) hgo
        subst hX0
        replace hl := Lib.hid hl
        clear hgo hX'
        (go_wp2_with fail; repeat (any_goals (go_quiet (fail); go_wp2_with fail)))
        go_ret
        refine ⟨ret_str ?_, (by repeat (first | assumption | exact Below.refl _ _ | apply Below.drew | apply below_drewN | apply balloc | (refine Below.setCell ?_ (by first | omega | (simp <;> omega)) _)))⟩
        rw [hr.out, Lib.itoa]
        apply text_ext
        rw [if_neg (by omega), Int.toNat_natCast]
        simp [hl.out]

end Go.Proofs.YtnldhgkmbighkaaGreatDoor
