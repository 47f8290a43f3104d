/- Package scan: Quote. -/
import Derived.Test.YtnldhgkmbighkaaDoorBytes
import Derived.Test.YtnldhgkmbighkaaDoorQuotePlain
import Derived.Test.YtnldhgkmbighkaaDoorScan1
namespace Go.Proofs.YtnldhgkmbighkaaDoor
open Go Go.RowKit

theorem errV_1 (A : Nat → Addr) : errV A 1 = .iface 203 (.pointer (some (A 1))) := rfl
theorem hexL_hi : ∀ c : Nat, c < 32 → ((hexL.getD (c / 16) 0).toNat : Int) = 48 + (c : Int) / 16 := by decide +kernel
theorem hexB_at : ∀ m : Nat, m < 16 → bAt ⟨#[48, 49, 50, 51, 52, 53, 54, 55, 56, 57, 97, 98, 99, 100, 101, 102]⟩ m = (hexL.getD m 0).toNat := by decide +kernel
theorem hexB_at2 (c : Nat) : ∀ h, (((⟨#[48, 49, 50, 51, 52, 53, 54, 55, 56, 57, 97, 98, 99, 100, 101, 102]⟩ : ByteArray)[c % 16]'h).toNat : Int) = ((hexL.getD (c % 16) 0).toNat : Int) := fun h => by
  rw [bAt_eq, hexB_at _ (Nat.mod_lt _ (by decide))]
/-- What is written when k bytes are through. -/
def quoteK (s : ByteArray) (k : Nat) : List UInt8 := 34 :: (s.data.toList.take k).flatMap escB
theorem quoteK_succ {s : ByteArray} {k : Nat} (h : k < s.size) : quoteK s (k + 1) = quoteK s k ++ escB (UInt8.ofNat (bAt s k)) := by
  have hl : s.data.toList.length = s.size := by rw [Array.length_toList]; rfl
  unfold quoteK
  rw [List.take_succ_eq_append_getElem (by omega), List.flatMap_append, List.cons_append]
  have e : s.data.toList[k]'(by omega) = UInt8.ofNat (bAt s k) := by
    rw [← bAt_eq s k h]
    simp; rfl
  rw [e]
  simp
theorem escB_len (b : UInt8) : (escB b).length ≤ 6 := by
  unfold escB; repeat' split
  all_goals simp
theorem quoteK_len (s : ByteArray) : ∀ k, k ≤ s.size → (quoteK s k).length ≤ 1 + 6 * k
  | 0, _ => by simp [quoteK]
  | k + 1, h => by
    rw [quoteK_succ (by omega), List.length_append]
    have := quoteK_len s k (by omega)
    have := escB_len (UInt8.ofNat (bAt s k))
    omega
theorem quoteK_end (s : ByteArray) : (⟨(quoteK s s.size ++ [34]).toArray⟩ : ByteArray) = quoteS s := by
  have hl : s.data.toList.length = s.size := by rw [Array.length_toList]; rfl
  unfold quoteS quoteL quoteK
  rw [List.take_of_length_le (by omega)]
  rfl
theorem u8n {c : Nat} (h : c < 256) : (UInt8.ofNat c).toNat = c := by rw [UInt8.toNat_ofNat']; omega
theorem escB_two {c : Nat} (h : c < 256) (h2 : c = 34 ∨ c = 92) : escB (UInt8.ofNat c) = [92, UInt8.ofNat c] := by
  unfold escB; rw [if_pos]; rcases h2 with rfl | rfl <;> simp
theorem escB_six {c : Nat} (h : c < 32) : escB (UInt8.ofNat c) = [92, 117, 48, 48, hexL.getD (c / 16) 0, hexL.getD (c % 16) 0] := by
  have hc := u8n (c := c) (by omega)
  unfold escB
  rw [if_neg, if_pos (by rw [hc]; exact h), hc]
  rintro (e | e) <;> (have := congrArg UInt8.toNat e; rw [hc] at this; simp at this; omega)
theorem escB_one {c : Nat} (h : c < 256) (h2 : c ≠ 34) (h3 : c ≠ 92) (h4 : ¬ c < 32) : escB (UInt8.ofNat c) = [UInt8.ofNat c] := by
  have hc := u8n h
  unfold escB
  rw [if_neg, if_neg (by rw [hc]; exact h4)]
  rintro (e | e) <;> (have := congrArg UInt8.toNat e; rw [hc] at this; simp at this; omega)
set_option maxHeartbeats 4000000 in
set_option maxRecDepth 100000 in
theorem Quote_calls {A : Nat → Addr} {B : Nat} (s : ByteArray) (w : World) (hE : Env A B SU w) (hs : s.size ≤ 3518437208882) :
    Calls Tryd.prog 13 #[.string s] w fun e w' => e = .returned (if utfE s = 0 then .tuple #[.string (quoteS s), .nilIface] else .tuple #[.string ⟨#[]⟩, .iface 203 (.pointer (some (A 1)))]) ∧ Below w.heap.size w w' := by
  have hs' : (s.size : Int) ≤ 3518437208882 := by omega
  have C := Lib.hid (fun w hE => scalarsCheck_calls (A := A) (B := B) s w (by omega) hE)
  by_cases hu : utfE s = 0
  · rw [if_pos hu]
    rw [hu] at C
    replace C : Hid (∀ w, Env A B SU w → Calls Tryd.prog 32 #[.string s] w fun e w' => e = .returned (.tuple #[.int .i64 (brkAt s 0), .nilIface]) ∧ Below w.heap.size w w') := C
    replace hu := Lib.hid hu
    generalize brkAt s 0 = p at *
    obtain ⟨R, hR⟩ : ∃ R, R = quoteS s := ⟨_, rfl⟩
    rw [← hR]
    replace hR := Lib.hid hR
    replace hs := Lib.hid hs
    go_enter Tryd.func13, Tryd.ntmps13
    (go_wp2_with fail; repeat (any_goals (go_quiet (fail); go_wp2_with fail)))
    refine (C.out _ (hE.next (by repeat (first | assumption | exact Below.refl _ _ | apply Below.drew | apply below_drewN | apply balloc | (refine Below.setCell ?_ (by first | omega | (simp <;> omega)) _))))).mono ?_
    rintro e w1 ⟨rfl, hb⟩
    have hb1 : Below w.heap.size w w1 := bcall (by repeat (first | assumption | exact Below.refl _ _ | apply Below.drew | apply below_drewN | apply balloc | (refine Below.setCell ?_ (by first | omega | (simp <;> omega)) _))) hb
    have hz1 := hb1.size
    clear hb C
    (go_wp2_with fail; repeat (any_goals (go_quiet (fail); go_wp2_with fail)))
    go_loopw [20, 6] (fun v20 v6 wr => ∃ k : Nat, k ≤ s.size ∧ v20 = .int .i64 (k : Int) ∧ Hid (OwnB wr w.heap.size v6 (quoteK s k)) ∧ Below w.heap.size w wr) (fun v _ _ => s.size - (intOf v).toNat)
    case atStart => exact ⟨0, Nat.zero_le _, rfl, Lib.hid (OwnB.lit [34] _ rfl hz1 (by decide) rfl rfl), (by repeat (first | assumption | exact Below.refl _ _ | apply Below.drew | apply below_drewN | apply balloc | (refine Below.setCell ?_ (by first | omega | (simp <;> omega)) _)))⟩
    case round =>
      clear hb1 hz1
      obtain ⟨k, hk, rfl, ho1, hB⟩ := hrel
      have hx := byte_at s k
      have hz := hB.size
      have hql := Lib.hid (quoteK_len s k hk)
      by_cases hlt : k < s.size
      · have hlt' : (k : Int) < (s.size : Int) := by omega
        have hc := bAt_lt s k
        have hS := Lib.hid (quoteK_succ hlt)
        by_cases h2 : bAt s k = 34 ∨ bAt s k = 92
        · have hesc := Lib.hid (escB_two hc h2)
          have hn := Lib.hid (u8n hc)
          generalize bAt s k = c at *
          by_cases h34 : c = 34
          · have h34' : ((c : Int) == 34) = true := by simp; omega
            replace h34 := Lib.hid h34
            replace h2 := Lib.hid h2
            go_wp2_with (at_builtin; refine app_lit rfl _ _ rfl w.heap.size _ (quoteK s k) rfl (show OwnB _ _ _ _ from World.ownsRow.alloc ho1.out _) _ 2 2 _ _ _ [92, UInt8.ofNat c] rfl (heap_alloc_new _ _) ?c1 rfl (by have := hql.out; have := hs.out; omega) (by simp; omega) ?_)
            case c1 => unfold u8c; simp only [List.map_cons, List.map_nil, hn.out]; rfl
            intro v' w2 ho2 hg
            have hb2 := below_own (hB.alloc hz _) (show OwnB _ _ _ _ from World.ownsRow.alloc ho1.out _) hg (by simp; omega)
            replace ho2 := Lib.hid ho2
            clear hg
            (go_wp2_with fail; repeat (any_goals (go_quiet (fail); go_wp2_with fail)))
            go_roundw
            case measure => simp [intOf]; omega
            case rel => exact ⟨k + 1, by omega, by go_num, Lib.hid (by rw [hS.out, hesc.out]; exact ho2.out), by assumption⟩
          · have h34' : ((c : Int) == 34) = false := by simp; omega
            have h92' : ((c : Int) == 92) = true := by simp; omega
            replace h34 := Lib.hid h34
            replace h2 := Lib.hid h2
            go_wp2_with (at_builtin; refine app_lit rfl _ _ rfl w.heap.size _ (quoteK s k) rfl (show OwnB _ _ _ _ from World.ownsRow.alloc ho1.out _) _ 2 2 _ _ _ [92, UInt8.ofNat c] rfl (heap_alloc_new _ _) ?c1 rfl (by have := hql.out; have := hs.out; omega) (by simp; omega) ?_)
            case c1 => unfold u8c; simp only [List.map_cons, List.map_nil, hn.out]; rfl
            intro v' w2 ho2 hg
            have hb2 := below_own (hB.alloc hz _) (show OwnB _ _ _ _ from World.ownsRow.alloc ho1.out _) hg (by simp; omega)
            replace ho2 := Lib.hid ho2
            clear hg
            (go_wp2_with fail; repeat (any_goals (go_quiet (fail); go_wp2_with fail)))
            go_roundw
            case measure => simp [intOf]; omega
            case rel => exact ⟨k + 1, by omega, by go_num, Lib.hid (by rw [hS.out, hesc.out]; exact ho2.out), by assumption⟩
        · have h34' : ((bAt s k : Int) == 34) = false := by simp; omega
          have h92' : ((bAt s k : Int) == 92) = false := by simp; omega
          by_cases h32 : bAt s k < 32
          · have hesc := Lib.hid (escB_six h32)
            have h32' : (bAt s k : Int) < 32 := by omega
            have e1 := Lib.hid (hexL_hi _ h32)
            have e2 := Lib.hid (hexB_at2 (bAt s k))
            generalize bAt s k = c at *
            replace h2 := Lib.hid h2
            go_wp2_with (at_builtin; refine app_lit rfl _ _ rfl w.heap.size _ (quoteK s k) rfl (show OwnB _ _ _ _ from World.ownsRow.alloc ho1.out _) _ 6 6 _ _ _ [92, 117, 48, 48, hexL.getD (c / 16) 0, hexL.getD (c % 16) 0] rfl (heap_alloc_new _ _) ?c1 rfl (by have := hql.out; have := hs.out; omega) (by simp; omega) ?_)
            case c1 => unfold u8c; simp only [List.map_cons, List.map_nil, e1.out, e2.out]; rfl
            intro v' w2 ho2 hg
            have hb2 := below_own (hB.alloc hz _) (show OwnB _ _ _ _ from World.ownsRow.alloc ho1.out _) hg (by simp; omega)
            replace ho2 := Lib.hid ho2
            clear hg
            (go_wp2_with fail; repeat (any_goals (go_quiet (fail); go_wp2_with fail)))
            go_roundw
            case measure => simp [intOf]; omega
            case rel => exact ⟨k + 1, by omega, by go_num, Lib.hid (by rw [hS.out, hesc.out]; exact ho2.out), by assumption⟩
          · have h32' : ¬ (bAt s k : Int) < 32 := by omega
            have hesc := Lib.hid (escB_one hc (fun h => h2 (Or.inl h)) (fun h => h2 (Or.inr h)) h32)
            have hn := Lib.hid (u8n hc)
            generalize bAt s k = c at *
            replace h2 := Lib.hid h2
            go_wp2_with (at_builtin; refine app_lit rfl _ _ rfl w.heap.size _ (quoteK s k) rfl (show OwnB _ _ _ _ from World.ownsRow.alloc ho1.out _) _ 1 1 _ _ _ [UInt8.ofNat c] rfl (heap_alloc_new _ _) ?c1 rfl (by have := hql.out; have := hs.out; omega) (by simp; omega) ?_)
            case c1 => unfold u8c; simp only [List.map_cons, List.map_nil, hn.out]
            intro v' w2 ho2 hg
            have hb2 := below_own (hB.alloc hz _) (show OwnB _ _ _ _ from World.ownsRow.alloc ho1.out _) hg (by simp; omega)
            replace ho2 := Lib.hid ho2
            clear hg
            (go_wp2_with fail; repeat (any_goals (go_quiet (fail); go_wp2_with fail)))
            go_roundw
            case measure => simp [intOf]; omega
            case rel => exact ⟨k + 1, by omega, by go_num, Lib.hid (by rw [hS.out, hesc.out]; exact ho2.out), by assumption⟩
      · obtain rfl : k = s.size := by omega
        have hend := Lib.hid (quoteK_end s)
        go_wp2_with (at_builtin; refine app_lit rfl _ _ rfl w.heap.size _ (quoteK s s.size) rfl (show OwnB _ _ _ _ from World.ownsRow.alloc ho1.out _) _ 1 1 _ _ _ [34] rfl (heap_alloc_new _ _) rfl rfl (by have := hql.out; have := hs.out; omega) (by simp; omega) ?_)
        intro v' w2 ho2 hg
        have hb2 := below_own (hB.alloc hz _) (show OwnB _ _ _ _ from World.ownsRow.alloc ho1.out _) hg (by simp; omega)
        have hcv := conv_own ho2
        rw [hend.out, ← hR.out] at hcv
        replace ho2 := Lib.hid ho2
        clear hg
        (go_wp2_with fail; repeat (any_goals (go_quiet (fail); go_wp2_with fail)))
        go_ret2
        exact ⟨rfl, hb2⟩
  · rw [if_neg hu]
    have hu1 : utfE s = 1 := by
      unfold utfE at hu ⊢
      split at hu
      · rename_i h; rw [if_pos h]
      · exact absurd rfl hu
    rw [hu1] at C
    replace C : Hid (∀ w, Env A B SU w → Calls Tryd.prog 32 #[.string s] w fun e w' => e = .returned (.tuple #[.int .i64 (brkAt s 0), .iface 203 (.pointer (some (A 1)))]) ∧ Below w.heap.size w w') := C
    replace hu := Lib.hid hu
    replace hu1 := Lib.hid hu1
    generalize brkAt s 0 = p at *
    go_enter Tryd.func13, Tryd.ntmps13
    (go_wp2_with fail; repeat (any_goals (go_quiet (fail); go_wp2_with fail)))
    refine (C.out _ (hE.next (by repeat (first | assumption | exact Below.refl _ _ | apply Below.drew | apply below_drewN | apply balloc | (refine Below.setCell ?_ (by first | omega | (simp <;> omega)) _))))).mono ?_
    rintro e w1 ⟨rfl, hb⟩
    have hb1 : Below w.heap.size w w1 := bcall (by repeat (first | assumption | exact Below.refl _ _ | apply Below.drew | apply below_drewN | apply balloc | (refine Below.setCell ?_ (by first | omega | (simp <;> omega)) _))) hb
    have e1 := (hE.next hb1).e1
    clear hb C
    (go_wp2_with fail; repeat (any_goals (go_quiet (fail); go_wp2_with fail)))
    all_goals
      go_ret2
      exact ⟨rfl, (by repeat (first | assumption | exact Below.refl _ _ | apply Below.drew | apply below_drewN | apply balloc | (refine Below.setCell ?_ (by first | omega | (simp <;> omega)) _)))⟩

end Go.Proofs.YtnldhgkmbighkaaDoor
