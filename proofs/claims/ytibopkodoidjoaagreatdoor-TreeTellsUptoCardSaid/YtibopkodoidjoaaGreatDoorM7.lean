/- Lemmas of the proof, put together: QuoteW, TreeLen, Fmt1, Fmt2, Rd9. -/
import Derived.Test.YtibopkodoidjoaaGreatDoorM2
import Derived.Test.YtibopkodoidjoaaGreatDoorM4
import Derived.Test.YtibopkodoidjoaaGreatDoorM1
import Derived.Test.YtibopkodoidjoaaGreatDoorM6
import Derived.Test.YtibopkodoidjoaaGreatDoorM5

/- Package scan: Quote. -/
namespace Go.Proofs.YtibopkodoidjoaaGreatDoor
open Go Go.RowKit

theorem errV_1 (A : Nat → Addr) : errV A 1 = .iface 237 (.pointer (some (A 1))) := rfl
theorem hexL_hi : ∀ c : Nat, c < 32 → ((hexL.getD (c / 16) 0).toNat : Int) = 48 + (c : Int) / 16 := by decide +kernel
theorem hexB_at : ∀ m : Nat, m < 16 → bAt ⟨#[48, 49, 50, 51, 52, 53, 54, 55, 56, 57, 97, 98, 99, 100, 101, 102]⟩ m = (hexL.getD m 0).toNat := by decide +kernel
theorem hexB_at2 (c : Nat) : ∀ h, (((⟨#[48, 49, 50, 51, 52, 53, 54, 55, 56, 57, 97, 98, 99, 100, 101, 102]⟩ : ByteArray)[c % 16]'h).toNat : Int) = ((hexL.getD (c % 16) 0).toNat : Int) := fun h => by
  rw [bAt_eq, hexB_at _ (Nat.mod_lt _ (by decide))]
/-- What is written when k bytes are through. -/
def quoteK (s : ByteArray) (k : Nat) : List UInt8 := 34 :: (s.data.toList.take k).flatMap escB
theorem quoteK_succ {s : ByteArray} {k : Nat} (h : k < s.size) : quoteK s (k + 1) = quoteK s k ++ escB (UInt8.ofNat (bAt s k)) := by
  have hl : s.data.toList.length = s.size := by rw [Array.length_toList]; rfl
  unfold quoteK
  rw [List.take_succ_eq_append_getElem (by omega), List.flatMap_append, List.cons_append]
  have e : s.data.toList[k]'(by omega) = UInt8.ofNat (bAt s k) := by
    rw [← bAt_eq s k h]
    simp; rfl
  rw [e]
  simp
theorem escB_len (b : UInt8) : (escB b).length ≤ 6 := by
  unfold escB; repeat' split
  all_goals simp
theorem quoteK_len (s : ByteArray) : ∀ k, k ≤ s.size → (quoteK s k).length ≤ 1 + 6 * k
  | 0, _ => by simp [quoteK]
  | k + 1, h => by
    rw [quoteK_succ (by omega), List.length_append]
    have := quoteK_len s k (by omega)
    have := escB_len (UInt8.ofNat (bAt s k))
    omega
theorem quoteK_end (s : ByteArray) : (⟨(quoteK s s.size ++ [34]).toArray⟩ : ByteArray) = quoteS s := by
  have hl : s.data.toList.length = s.size := by rw [Array.length_toList]; rfl
  unfold quoteS quoteL quoteK
  rw [List.take_of_length_le (by omega)]
  rfl
theorem u8n {c : Nat} (h : c < 256) : (UInt8.ofNat c).toNat = c := by rw [UInt8.toNat_ofNat']; omega
theorem escB_two {c : Nat} (h : c < 256) (h2 : c = 34 ∨ c = 92) : escB (UInt8.ofNat c) = [92, UInt8.ofNat c] := by
  unfold escB; rw [if_pos]; rcases h2 with rfl | rfl <;> simp
theorem escB_six {c : Nat} (h : c < 32) : escB (UInt8.ofNat c) = [92, 117, 48, 48, hexL.getD (c / 16) 0, hexL.getD (c % 16) 0] := by
  have hc := u8n (c := c) (by omega)
  unfold escB
  rw [if_neg, if_pos (by rw [hc]; exact h), hc]
  rintro (e | e) <;> (have := congrArg UInt8.toNat e; rw [hc] at this; simp at this; omega)
theorem escB_one {c : Nat} (h : c < 256) (h2 : c ≠ 34) (h3 : c ≠ 92) (h4 : ¬ c < 32) : escB (UInt8.ofNat c) = [UInt8.ofNat c] := by
  have hc := u8n h
  unfold escB
  rw [if_neg, if_neg (by rw [hc]; exact h4)]
  rintro (e | e) <;> (have := congrArg UInt8.toNat e; rw [hc] at this; simp at this; omega)
set_option maxHeartbeats 4000000 in
set_option maxRecDepth 100000 in
theorem Quote_calls {A : Nat → Addr} {B : Nat} (s : ByteArray) (w : World) (hE : Env A B SU w) (hs : s.size ≤ 3518437208882) :
    Calls Tryz.prog 44 #[.string s] w fun e w' => e = .returned (if utfE s = 0 then .tuple #[.string (quoteS s), .nilIface] else .tuple #[.string ⟨#[]⟩, .iface 237 (.pointer (some (A 1)))]) ∧ Below w.heap.size w w' := by
  have hs' : (s.size : Int) ≤ 3518437208882 := by omega
  have C := Lib.hid (fun w hE => scalarsCheck_calls (A := A) (B := B) s w (by omega) hE)
  by_cases hu : utfE s = 0
  · rw [if_pos hu]
    rw [hu] at C
    replace C : Hid (∀ w, Env A B SU w → Calls Tryz.prog 71 #[.string s] w fun e w' => e = .returned (.tuple #[.int .i64 (brkAt s 0), .nilIface]) ∧ Below w.heap.size w w') := C
    replace hu := Lib.hid hu
    generalize brkAt s 0 = p at *
    obtain ⟨R, hR⟩ : ∃ R, R = quoteS s := ⟨_, rfl⟩
    rw [← hR]
    replace hR := Lib.hid hR
    replace hs := Lib.hid hs
    go_enter Tryz.func44, Tryz.ntmps44
    (go_wp2_with fail; repeat (any_goals (go_quiet (fail); go_wp2_with fail)))
    refine (C.out _ (hE.next (by repeat (first | assumption | exact Below.refl _ _ | apply Below.drew | apply below_drewN | apply balloc | (refine Below.setCell ?_ (by first | omega | (simp <;> omega)) _))))).mono ?_
    rintro e w1 ⟨rfl, hb⟩
    have hb1 : Below w.heap.size w w1 := bcall (by repeat (first | assumption | exact Below.refl _ _ | apply Below.drew | apply below_drewN | apply balloc | (refine Below.setCell ?_ (by first | omega | (simp <;> omega)) _))) hb
    have hz1 := hb1.size
    clear hb C
    (go_wp2_with fail; repeat (any_goals (go_quiet (fail); go_wp2_with fail)))
    go_loopw [20, 6] (fun v20 v6 wr => ∃ k : Nat, k ≤ s.size ∧ v20 = .int .i64 (k : Int) ∧ Hid (OwnB wr w.heap.size v6 (quoteK s k)) ∧ Below w.heap.size w wr) (fun v _ _ => s.size - (intOf v).toNat)
    case atStart => exact ⟨0, Nat.zero_le _, rfl, Lib.hid (OwnB.lit [34] _ rfl hz1 (by decide) rfl rfl), (by repeat (first | assumption | exact Below.refl _ _ | apply Below.drew | apply below_drewN | apply balloc | (refine Below.setCell ?_ (by first | omega | (simp <;> omega)) _)))⟩
    case round =>
      clear hb1 hz1
      obtain ⟨k, hk, rfl, ho1, hB⟩ := hrel
      have hx := byte_at s k
      have hz := hB.size
      have hql := Lib.hid (quoteK_len s k hk)
      by_cases hlt : k < s.size
      · have hlt' : (k : Int) < (s.size : Int) := by omega
        have hc := bAt_lt s k
        have hS := Lib.hid (quoteK_succ hlt)
        by_cases h2 : bAt s k = 34 ∨ bAt s k = 92
        · have hesc := Lib.hid (escB_two hc h2)
          have hn := Lib.hid (u8n hc)
          generalize bAt s k = c at *
          by_cases h34 : c = 34
          · have h34' : ((c : Int) == 34) = true := by simp; omega
            replace h34 := Lib.hid h34
            replace h2 := Lib.hid h2
            go_wp2_with (at_builtin; refine app_lit rfl _ _ rfl w.heap.size _ (quoteK s k) rfl (show OwnB _ _ _ _ from World.ownsRow.alloc ho1.out _) _ 2 2 _ _ _ [92, UInt8.ofNat c] rfl (heap_alloc_new _ _) ?c1 rfl (by have := hql.out; have := hs.out; omega) (by simp; omega) ?_)
            case c1 => unfold u8c; simp only [List.map_cons, List.map_nil, hn.out]; rfl
            intro v' w2 ho2 hg
            have hb2 := below_own (hB.alloc hz _) (show OwnB _ _ _ _ from World.ownsRow.alloc ho1.out _) hg (by simp; omega)
            replace ho2 := Lib.hid ho2
            clear hg
            (go_wp2_with fail; repeat (any_goals (go_quiet (fail); go_wp2_with fail)))
            go_roundw
            case measure => simp [intOf]; omega
            case rel => exact ⟨k + 1, by omega, by go_num, Lib.hid (by rw [hS.out, hesc.out]; exact ho2.out), by assumption⟩
          · have h34' : ((c : Int) == 34) = false := by simp; omega
            have h92' : ((c : Int) == 92) = true := by simp; omega
            replace h34 := Lib.hid h34
            replace h2 := Lib.hid h2
            go_wp2_with (at_builtin; refine app_lit rfl _ _ rfl w.heap.size _ (quoteK s k) rfl (show OwnB _ _ _ _ from World.ownsRow.alloc ho1.out _) _ 2 2 _ _ _ [92, UInt8.ofNat c] rfl (heap_alloc_new _ _) ?c1 rfl (by have := hql.out; have := hs.out; omega) (by simp; omega) ?_)
            case c1 => unfold u8c; simp only [List.map_cons, List.map_nil, hn.out]; rfl
            intro v' w2 ho2 hg
            have hb2 := below_own (hB.alloc hz _) (show OwnB _ _ _ _ from World.ownsRow.alloc ho1.out _) hg (by simp; omega)
            replace ho2 := Lib.hid ho2
            clear hg
            (go_wp2_with fail; repeat (any_goals (go_quiet (fail); go_wp2_with fail)))
            go_roundw
            case measure => simp [intOf]; omega
            case rel => exact ⟨k + 1, by omega, by go_num, Lib.hid (by rw [hS.out, hesc.out]; exact ho2.out), by assumption⟩
        · have h34' : ((bAt s k : Int) == 34) = false := by simp; omega
          have h92' : ((bAt s k : Int) == 92) = false := by simp; omega
          by_cases h32 : bAt s k < 32
          · have hesc := Lib.hid (escB_six h32)
            have h32' : (bAt s k : Int) < 32 := by omega
            have e1 := Lib.hid (hexL_hi _ h32)
            have e2 := Lib.hid (hexB_at2 (bAt s k))
            generalize bAt s k = c at *
            replace h2 := Lib.hid h2
            go_wp2_with (at_builtin; refine app_lit rfl _ _ rfl w.heap.size _ (quoteK s k) rfl (show OwnB _ _ _ _ from World.ownsRow.alloc ho1.out _) _ 6 6 _ _ _ [92, 117, 48, 48, hexL.getD (c / 16) 0, hexL.getD (c % 16) 0] rfl (heap_alloc_new _ _) ?c1 rfl (by have := hql.out; have := hs.out; omega) (by simp; omega) ?_)
            case c1 => unfold u8c; simp only [List.map_cons, List.map_nil, e1.out, e2.out]; rfl
            intro v' w2 ho2 hg
            have hb2 := below_own (hB.alloc hz _) (show OwnB _ _ _ _ from World.ownsRow.alloc ho1.out _) hg (by simp; omega)
            replace ho2 := Lib.hid ho2
            clear hg
            (go_wp2_with fail; repeat (any_goals (go_quiet (fail); go_wp2_with fail)))
            go_roundw
            case measure => simp [intOf]; omega
            case rel => exact ⟨k + 1, by omega, by go_num, Lib.hid (by rw [hS.out, hesc.out]; exact ho2.out), by assumption⟩
          · have h32' : ¬ (bAt s k : Int) < 32 := by omega
            have hesc := Lib.hid (escB_one hc (fun h => h2 (Or.inl h)) (fun h => h2 (Or.inr h)) h32)
            have hn := Lib.hid (u8n hc)
            generalize bAt s k = c at *
            replace h2 := Lib.hid h2
            go_wp2_with (at_builtin; refine app_lit rfl _ _ rfl w.heap.size _ (quoteK s k) rfl (show OwnB _ _ _ _ from World.ownsRow.alloc ho1.out _) _ 1 1 _ _ _ [UInt8.ofNat c] rfl (heap_alloc_new _ _) ?c1 rfl (by have := hql.out; have := hs.out; omega) (by simp; omega) ?_)
            case c1 => unfold u8c; simp only [List.map_cons, List.map_nil, hn.out]
            intro v' w2 ho2 hg
            have hb2 := below_own (hB.alloc hz _) (show OwnB _ _ _ _ from World.ownsRow.alloc ho1.out _) hg (by simp; omega)
            replace ho2 := Lib.hid ho2
            clear hg
            (go_wp2_with fail; repeat (any_goals (go_quiet (fail); go_wp2_with fail)))
            go_roundw
            case measure => simp [intOf]; omega
            case rel => exact ⟨k + 1, by omega, by go_num, Lib.hid (by rw [hS.out, hesc.out]; exact ho2.out), by assumption⟩
      · obtain rfl : k = s.size := by omega
        have hend := Lib.hid (quoteK_end s)
        go_wp2_with (at_builtin; refine app_lit rfl _ _ rfl w.heap.size _ (quoteK s s.size) rfl (show OwnB _ _ _ _ from World.ownsRow.alloc ho1.out _) _ 1 1 _ _ _ [34] rfl (heap_alloc_new _ _) rfl rfl (by have := hql.out; have := hs.out; omega) (by simp; omega) ?_)
        intro v' w2 ho2 hg
        have hb2 := below_own (hB.alloc hz _) (show OwnB _ _ _ _ from World.ownsRow.alloc ho1.out _) hg (by simp; omega)
        have hcv := conv_own ho2
        rw [hend.out, ← hR.out] at hcv
        replace ho2 := Lib.hid ho2
        clear hg
        (go_wp2_with fail; repeat (any_goals (go_quiet (fail); go_wp2_with fail)))
        go_ret2
        exact ⟨rfl, hb2⟩
  · rw [if_neg hu]
    have hu1 : utfE s = 1 := by
      unfold utfE at hu ⊢
      split at hu
      · rename_i h; rw [if_pos h]
      · exact absurd rfl hu
    rw [hu1] at C
    replace C : Hid (∀ w, Env A B SU w → Calls Tryz.prog 71 #[.string s] w fun e w' => e = .returned (.tuple #[.int .i64 (brkAt s 0), .iface 237 (.pointer (some (A 1)))]) ∧ Below w.heap.size w w') := C
    replace hu := Lib.hid hu
    replace hu1 := Lib.hid hu1
    generalize brkAt s 0 = p at *
    go_enter Tryz.func44, Tryz.ntmps44
    (go_wp2_with fail; repeat (any_goals (go_quiet (fail); go_wp2_with fail)))
    refine (C.out _ (hE.next (by repeat (first | assumption | exact Below.refl _ _ | apply Below.drew | apply below_drewN | apply balloc | (refine Below.setCell ?_ (by first | omega | (simp <;> omega)) _))))).mono ?_
    rintro e w1 ⟨rfl, hb⟩
    have hb1 : Below w.heap.size w w1 := bcall (by repeat (first | assumption | exact Below.refl _ _ | apply Below.drew | apply below_drewN | apply balloc | (refine Below.setCell ?_ (by first | omega | (simp <;> omega)) _))) hb
    have e1 := (hE.next hb1).e1
    clear hb C
    (go_wp2_with fail; repeat (any_goals (go_quiet (fail); go_wp2_with fail)))
    all_goals
      go_ret2
      exact ⟨rfl, (by repeat (first | assumption | exact Below.refl _ _ | apply Below.drew | apply below_drewN | apply balloc | (refine Below.setCell ?_ (by first | omega | (simp <;> omega)) _)))⟩

end Go.Proofs.YtibopkodoidjoaaGreatDoor

/- Package tree, plain laws: what holds of every text of a node; how long a node's text can be. No program in sight. -/
namespace Go.Proofs.YtibopkodoidjoaaGreatDoor
open Go Go.RowKit

mutual
/-- P holds of every text and key. -/
def allT (P : ByteArray → Prop) : Nd → Prop
  | .null _ => True
  | .flag _ _ => True
  | .num _ _ => True
  | .text _ t => P t
  | .lst _ xs => allL P xs
  | .obj _ xs => allM P xs
def allL (P : ByteArray → Prop) : List Nd → Prop
  | [] => True
  | x :: xs => allT P x ∧ allL P xs
def allM (P : ByteArray → Prop) : List (ByteArray × Nat × Nd) → Prop
  | [] => True
  | (k, _, x) :: xs => P k ∧ allT P x ∧ allM P xs
end
theorem allL_mem {P : ByteArray → Prop} : ∀ {xs : List Nd}, allL P xs → ∀ x ∈ xs, allT P x
  | [], _, x, h => by cases h
  | y :: xs, h, x, hx => by
    rw [allL] at h
    rcases List.mem_cons.1 hx with rfl | hx
    · exact h.1
    · exact allL_mem h.2 x hx
theorem allM_mem {P : ByteArray → Prop} : ∀ {xs : List (ByteArray × Nat × Nd)}, allM P xs → ∀ m ∈ xs, P m.1 ∧ allT P m.2.2
  | [], _, x, h => by cases h
  | (k, p, y) :: xs, h, x, hx => by
    rw [allM] at h
    rcases List.mem_cons.1 hx with rfl | hx
    · exact ⟨h.1, h.2.1⟩
    · exact allM_mem h.2.2 x hx
theorem p_all {s : ByteArray} {ts : List Tk} {P : ByteArray → Prop} (hP : ∀ p, kindT ts p = 5 → P (textT ts p)) : ∀ f,
    (∀ deep p x q, pV s ts f deep p = .ok x q → allT P x) ∧
    (∀ deep p xs q, pI s ts f deep p = .ok xs q → allL P xs) ∧
    (∀ deep seen p xs q, pM s ts f deep seen p = .ok xs q → allM P xs)
  | 0 => ⟨(fun _ _ _ _ h => by rw [pV] at h; cases h), (fun _ _ _ _ h => by rw [pI] at h; cases h), (fun _ _ _ _ _ h => by rw [pM] at h; cases h)⟩
  | f + 1 => by
    obtain ⟨iV, iI, iM⟩ := p_all hP f
    refine ⟨?_, ?_, ?_⟩
    · intro deep p x q h
      rw [pV] at h
      split at h
      · cases h; trivial
      split at h
      · cases h; trivial
      split at h
      · cases h; trivial
      split at h
      · cases h; trivial
      split at h
      · rename_i h5
        cases h; exact hP p h5
      split at h
      · split at h
        · cases h
        · by_cases h9 : kindT ts (p + 1) = 9
          · rw [if_pos h9] at h; cases h; trivial
          · rw [if_neg h9] at h
            cases hI : pI s ts f deep (p + 1) with
            | ok xs r => rw [hI] at h; cases h; exact iI _ _ _ _ hI
            | err k pl => rw [hI] at h; cases h
            | out => rw [hI] at h; cases h
      split at h
      · split at h
        · cases h
        · by_cases h9 : kindT ts (p + 1) = 7
          · rw [if_pos h9] at h; cases h; trivial
          · rw [if_neg h9] at h
            cases hI : pM s ts f deep [] (p + 1) with
            | ok xs r => rw [hI] at h; cases h; exact iM _ _ _ _ _ hI
            | err k pl => rw [hI] at h; cases h
            | out => rw [hI] at h; cases h
      cases h
    · intro deep p xs q h
      rw [pI] at h
      cases hV : pV s ts f (deep + 1) p with
      | err k pl => rw [hV] at h; cases h
      | out => rw [hV] at h; cases h
      | ok x r =>
        rw [hV] at h
        dsimp only at h
        cases hr : rest s ts 9 r with
        | err k pl => rw [hr] at h; cases h
        | out => rw [hr] at h; cases h
        | ok b r' =>
          rw [hr] at h
          cases b with
          | true => cases h; exact ⟨iV _ _ _ _ hV, trivial⟩
          | false =>
            dsimp only at h
            cases hI : pI s ts f deep r' with
            | ok ys r => rw [hI] at h; cases h; exact ⟨iV _ _ _ _ hV, iI _ _ _ _ hI⟩
            | err k pl => rw [hI] at h; cases h
            | out => rw [hI] at h; cases h
    · intro deep seen p xs q h
      rw [pM] at h
      split at h
      · rename_i h5
        split at h
        · cases h
        · split at h
          · cases hV : pV s ts f (deep + 1) (p + 2) with
            | err k pl => rw [hV] at h; cases h
            | out => rw [hV] at h; cases h
            | ok x r =>
              rw [hV] at h
              dsimp only at h
              cases hr : rest s ts 7 r with
              | err k pl => rw [hr] at h; cases h
              | out => rw [hr] at h; cases h
              | ok b r' =>
                rw [hr] at h
                cases b with
                | true => cases h; exact ⟨hP p h5, iV _ _ _ _ hV, trivial⟩
                | false =>
                  dsimp only at h
                  cases hI : pM s ts f deep (seen ++ [textT ts p]) r' with
                  | ok ys r => rw [hI] at h; cases h; exact ⟨hP p h5, iV _ _ _ _ hV, iM _ _ _ _ _ hI⟩
                  | err k pl => rw [hI] at h; cases h
                  | out => rw [hI] at h; cases h
          · cases h
      · cases h
theorem esc_len : ∀ l : List UInt8, (l.flatMap escB).length ≤ 6 * l.length
  | [] => Nat.le_refl _
  | c :: l => by
    rw [List.flatMap_cons, List.length_append, List.length_cons]
    have := esc_len l
    have := escB_len c
    omega
theorem qN_len (t : ByteArray) : (qN t).length ≤ 6 * t.size + 2 := by
  unfold qN
  split
  · unfold quoteL
    rw [List.length_cons, List.length_append, List.length_singleton]
    have := esc_len t.data.toList
    have h : t.data.toList.length = t.size := by rw [Array.length_toList]; rfl
    omega
  · exact Nat.zero_le _
theorem fmtL_len : ∀ xs : List Nd, (fmtL false xs).length ≤ (fmtL true xs).length + 1
  | [] => by rw [fmtL, fmtL]; simp
  | x :: xs => by rw [fmtL, fmtL]; simp
theorem fmtM_len : ∀ xs : List (ByteArray × Nat × Nd), (fmtM false xs).length ≤ (fmtM true xs).length + 1
  | [] => by rw [fmtM, fmtM]; simp
  | (k, p, x) :: xs => by rw [fmtM, fmtM]; simp
theorem p_len {s : ByteArray} {ts : List Tk} {m M : Nat} (hM : 6 * m + 8 ≤ M) (ht : ∀ p, (textT ts p).size ≤ m) (hw : ∀ p, (wordT s ts p).size ≤ m) : ∀ f,
    (∀ deep p x q, pV s ts f deep p = .ok x q → p * M + (fmtN x).length ≤ q * M) ∧
    (∀ deep p xs q, pI s ts f deep p = .ok xs q → p * M + (fmtL true xs).length + 1 ≤ q * M) ∧
    (∀ deep seen p xs q, pM s ts f deep seen p = .ok xs q → p * M + (fmtM true xs).length + 1 ≤ q * M)
  | 0 => ⟨(fun _ _ _ _ h => by rw [pV] at h; cases h), (fun _ _ _ _ h => by rw [pI] at h; cases h), (fun _ _ _ _ _ h => by rw [pM] at h; cases h)⟩
  | f + 1 => by
    obtain ⟨iV, iI, iM⟩ := p_len hM ht hw f
    have one : ∀ p, (p + 1) * M = p * M + M := fun p => Nat.succ_mul p M
    have two : ∀ p, (p + 2) * M = p * M + M + M := fun p => by rw [show p + 2 = (p + 1) + 1 from rfl, one, one]
    have hl : ∀ t : ByteArray, t.data.toList.length = t.size := fun t => by rw [Array.length_toList]; rfl
    refine ⟨?_, ?_, ?_⟩
    · intro deep p x q h
      rw [pV] at h
      split at h
      · cases h; rw [one, fmtN]; show p * M + 4 ≤ _; omega
      split at h
      · cases h; rw [one, fmtN]; show p * M + 4 ≤ _; omega
      split at h
      · cases h; rw [one, fmtN]; show p * M + 5 ≤ _; omega
      split at h
      · cases h
        rw [one, fmtN, hl]
        have := hw p
        omega
      split at h
      · cases h
        rw [one, fmtN]
        have := ht p
        have := qN_len (textT ts p)
        omega
      split at h
      · split at h
        · cases h
        · by_cases h9 : kindT ts (p + 1) = 9
          · rw [if_pos h9] at h; cases h
            rw [two, fmtN, fmtL]
            show p * M + 2 ≤ _
            omega
          · rw [if_neg h9] at h
            cases hI : pI s ts f deep (p + 1) with
            | ok xs r =>
              rw [hI] at h; cases h
              have := iI _ _ _ _ hI
              rw [one] at this
              rw [fmtN, List.length_cons, List.length_append, List.length_singleton]
              omega
            | err k pl => rw [hI] at h; cases h
            | out => rw [hI] at h; cases h
      split at h
      · split at h
        · cases h
        · by_cases h9 : kindT ts (p + 1) = 7
          · rw [if_pos h9] at h; cases h
            rw [two, fmtN, fmtM]
            show p * M + 2 ≤ _
            omega
          · rw [if_neg h9] at h
            cases hI : pM s ts f deep [] (p + 1) with
            | ok xs r =>
              rw [hI] at h; cases h
              have := iM _ _ _ _ _ hI
              rw [one] at this
              rw [fmtN, List.length_cons, List.length_append, List.length_singleton]
              omega
            | err k pl => rw [hI] at h; cases h
            | out => rw [hI] at h; cases h
      cases h
    · intro deep p xs q h
      rw [pI] at h
      cases hV : pV s ts f (deep + 1) p with
      | err k pl => rw [hV] at h; cases h
      | out => rw [hV] at h; cases h
      | ok x r =>
        rw [hV] at h
        dsimp only at h
        have h1 := iV _ _ _ _ hV
        cases hr : rest s ts 9 r with
        | err k pl => rw [hr] at h; cases h
        | out => rw [hr] at h; cases h
        | ok b r' =>
          have hr' : r' = r + 1 := by
            unfold rest at hr
            split at hr
            · cases hr; rfl
            · split at hr
              · cases hr; rfl
              · cases hr
          subst hr'
          rw [hr] at h
          cases b with
          | true =>
            cases h
            rw [one, fmtL, fmtL]
            simp
            omega
          | false =>
            dsimp only at h
            cases hI : pI s ts f deep (r + 1) with
            | ok ys r =>
              rw [hI] at h; cases h
              have h2 := iI _ _ _ _ hI
              rw [one] at h2
              have h3 := fmtL_len ys
              rw [fmtL]
              simp
              omega
            | err k pl => rw [hI] at h; cases h
            | out => rw [hI] at h; cases h
    · intro deep seen p xs q h
      rw [pM] at h
      have h4 := ht p
      have h5 := qN_len (textT ts p)
      split at h
      · split at h
        · cases h
        · split at h
          · cases hV : pV s ts f (deep + 1) (p + 2) with
            | err k pl => rw [hV] at h; cases h
            | out => rw [hV] at h; cases h
            | ok x r =>
              rw [hV] at h
              dsimp only at h
              have h1 := iV _ _ _ _ hV
              rw [two] at h1
              cases hr : rest s ts 7 r with
              | err k pl => rw [hr] at h; cases h
              | out => rw [hr] at h; cases h
              | ok b r' =>
                have hr' : r' = r + 1 := by
                  unfold rest at hr
                  split at hr
                  · cases hr; rfl
                  · split at hr
                    · cases hr; rfl
                    · cases hr
                subst hr'
                rw [hr] at h
                cases b with
                | true =>
                  cases h
                  rw [one, fmtM, fmtM]
                  simp
                  omega
                | false =>
                  dsimp only at h
                  cases hI : pM s ts f deep (seen ++ [textT ts p]) (r + 1) with
                  | ok ys r =>
                    rw [hI] at h; cases h
                    have h2 := iM _ _ _ _ _ hI
                    rw [one] at h2
                    have h3 := fmtM_len ys
                    rw [fmtM]
                    simp
                    omega
                  | err k pl => rw [hI] at h; cases h
                  | out => rw [hI] at h; cases h
          · cases h
      · cases h
theorem parse_pV {s : ByteArray} {ts : List Tk} {x : Nd} {q : Nat} (h : pP s ts = .ok x q) : pV s ts (2 * ts.length + 1) 0 0 = .ok x q ∧ q = ts.length := by
  have hf := pV_fits s ts
  unfold pP at h
  cases hV : pV s ts (2 * ts.length + 1) 0 0 with
  | err k pl => rw [hV] at h; cases h
  | out => rw [hV] at h; cases h
  | ok y r =>
    rw [hV] at h hf
    dsimp only at h
    split at h
    · cases h
    · cases h
      have := hf.2
      exact ⟨rfl, by omega⟩
theorem textT_le {ts : List Tk} {m : Nat} (h : ∀ T ∈ ts, T.text.size ≤ m) (p : Nat) : (textT ts p).size ≤ m := by
  unfold textT
  cases hT : ts[p]? with
  | none => exact Nat.zero_le _
  | some T => exact h T (List.mem_of_getElem? hT)
theorem wordT_le {s : ByteArray} {ts : List Tk} {m : Nat} (h : s.size ≤ m) (p : Nat) : (wordT s ts p).size ≤ m := by
  unfold wordT
  cases hT : ts[p]? with
  | none => exact Nat.zero_le _
  | some T =>
    show (s.extract T.fr T.to).size ≤ m
    rw [ByteArray.size_extract]
    omega

end Go.Proofs.YtibopkodoidjoaaGreatDoor

/- Package tree: quoted, and format of a node that has no items. -/
namespace Go.Proofs.YtibopkodoidjoaaGreatDoor
open Go Go.RowKit

/-- Blocks below base are as they were, and blocks that hold no bytes. -/
structure FB (base : Nat) (w w' : World) : Prop where
  bel : Below base w w'
  keep : ∀ (k : Nat) (o : Obj), w.heap[k]? = some o → (∀ cs fr, o ≠ .cells cs 5 fr) → w'.heap[k]? = some o
theorem FB.refl (base : Nat) (w : World) : FB base w w := ⟨Below.refl _ _, fun _ _ h _ => h⟩
theorem FB.trans {base : Nat} {a b c : World} (h : FB base a b) (k : FB base b c) : FB base a c := ⟨h.bel.trans k.bel, fun i o hi hn => k.keep i o (h.keep i o hi hn) hn⟩
theorem FB.ofB {base : Nat} {a b : World} (h : Below a.heap.size a b) (hb : base ≤ a.heap.size) : FB base a b := ⟨h.mono hb, fun i _ hi _ => (h.block i (ltB hi)).trans hi⟩
theorem FB.alloc {base : Nat} {a b : World} (h : FB base a b) (hb : base ≤ b.heap.size) (o : Obj) : FB base a (b.alloc o) := h.trans (FB.ofB ((Below.refl _ _).alloc (Nat.le_refl _) _) hb)
theorem FB.row {base : Nat} {a b c : World} {v : Value} {l : List UInt8} (h : FB base a b) (ho : OwnB b base v l) (hg : b.grownBy c v.ownBlock) (hb : base ≤ b.heap.size) : FB base a c := by
  refine h.trans ⟨Below.grown (Below.refl _ _) hg hb (fun k hk => ho.lt k hk), fun k o hk hn => (hg.block k (ltB hk) (fun e => ?_)).trans hk⟩
  obtain ⟨_, ⟨h2, _⟩ | ⟨g, cap, cur, h2, hbg, hg2, _⟩⟩ := ho
  · rw [h2] at e; cases e
  · rw [h2] at e
    cases e
    rw [hk] at hg2
    cases hg2
    exact hn _ _ rfl
theorem FB.size {base : Nat} {a b : World} (h : FB base a b) : a.heap.size ≤ b.heap.size := h.bel.size
/-- What format and quoted answer: the bytes l behind those of before. -/
def OutR (base : Nat) (w : World) (l : List UInt8) (e : Ending) (w' : World) : Prop := ∃ v', e = .returned v' ∧ OwnB w' base v' l ∧ FB base w w'
theorem OwnB.alloc {w : World} {base : Nat} {v : Value} {l : List UInt8} (h : OwnB w base v l) (o : Obj) : OwnB (w.alloc o) base v l := World.ownsRow.alloc h o
set_option maxHeartbeats 1000000 in
set_option maxRecDepth 100000 in
theorem quoted_calls {A : Nat → Addr} {B base : Nat} (t : ByteArray) (v : Value) (l : List UInt8) (w : World) (hE : Env A B SU w) (ho : OwnB w base v l) (hb : base ≤ w.heap.size) (ht : t.size ≤ 3518437208882) (hl : l.length + (qN t).length ≤ 140737488355328) :
    Calls Tryz.prog 70 #[v, .string t] w (fun e w' => OutR base w (l ++ qN t) e w' ∧ w.grownBy w' v.ownBlock) := by
  have C := Lib.hid (fun w hE => Quote_calls (A := A) (B := B) t w hE ht)
  have hqs : (quoteS t).data.toList = quoteL t.data.toList := by unfold quoteS; simp
  replace ho := Lib.hid ho
  by_cases hu : utfE t = 0
  · have hq : qN t = quoteL t.data.toList := by unfold qN; rw [if_pos hu]
    rw [hq] at hl ⊢
    rw [← hqs] at hl ⊢
    replace C : Hid (∀ w, Env A B SU w → Calls Tryz.prog 44 #[.string t] w fun e w' => e = .returned (.tuple #[.string (quoteS t), .nilIface]) ∧ Below w.heap.size w w') := Lib.hid (fun w hE => by
      have := C.out w hE
      rw [if_pos hu] at this
      exact this)
    have hsz : (quoteS t).data.toList.length = (quoteS t).size := by rw [Array.length_toList]; rfl
    rw [hsz] at hl
    generalize quoteS t = q at *
    replace hqs := Lib.hid hqs
    replace hq := Lib.hid hq
    replace hu := Lib.hid hu
    replace hsz := Lib.hid hsz
    go_enter Tryz.func70, Tryz.ntmps70
    (go_wp2_with fail; repeat (any_goals (go_quiet (fail); go_wp2_with fail)))
    refine (C.out _ (hE.next (by repeat (first | assumption | exact Below.refl _ _ | apply Below.drew | apply below_drewN | apply balloc | (refine Below.setCell ?_ (by first | omega | (simp <;> omega)) _))))).mono ?_
    rintro e w1 ⟨rfl, hb1⟩
    have ho1 := ho.out.next (w' := w1) (bcall (by repeat (first | assumption | exact Below.refl _ _ | apply Below.drew | apply below_drewN | apply balloc | (refine Below.setCell ?_ (by first | omega | (simp <;> omega)) _))) hb1)
    have hb2 : Below w.heap.size w w1 := bcall (by repeat (first | assumption | exact Below.refl _ _ | apply Below.drew | apply below_drewN | apply balloc | (refine Below.setCell ?_ (by first | omega | (simp <;> omega)) _))) hb1
    have hz := hb2.size
    go_wp2_with (at_builtin; refine app_str rfl _ _ rfl base v l rfl ho1 q rfl hl (by omega) ?_)
    intro v' w2 ho2 hg
    go_wp2_with fail
    go_ret
    exact ⟨⟨v', rfl, ho2, (FB.ofB hb2 hb).row ho1 hg (by omega)⟩, grown_trans (grown_of_below hb2) hg⟩
  · have hq : qN t = [] := by unfold qN; rw [if_neg hu]
    rw [hq, List.append_nil]
    replace C : Hid (∀ w, Env A B SU w → Calls Tryz.prog 44 #[.string t] w fun e w' => e = .returned (.tuple #[.string ⟨#[]⟩, .iface 237 (.pointer (some (A 1)))]) ∧ Below w.heap.size w w') := Lib.hid (fun w hE => by
      have := C.out w hE
      rw [if_neg hu] at this
      exact this)
    replace hqs := Lib.hid hqs
    replace hq := Lib.hid hq
    replace hu := Lib.hid hu
    go_enter Tryz.func70, Tryz.ntmps70
    (go_wp2_with fail; repeat (any_goals (go_quiet (fail); go_wp2_with fail)))
    refine (C.out _ (hE.next (by repeat (first | assumption | exact Below.refl _ _ | apply Below.drew | apply below_drewN | apply balloc | (refine Below.setCell ?_ (by first | omega | (simp <;> omega)) _))))).mono ?_
    rintro e w1 ⟨rfl, hb1⟩
    have ho1 := ho.out.next (w' := w1) (bcall (by repeat (first | assumption | exact Below.refl _ _ | apply Below.drew | apply below_drewN | apply balloc | (refine Below.setCell ?_ (by first | omega | (simp <;> omega)) _))) hb1)
    have hb2 : Below w.heap.size w w1 := bcall (by repeat (first | assumption | exact Below.refl _ _ | apply Below.drew | apply below_drewN | apply balloc | (refine Below.setCell ?_ (by first | omega | (simp <;> omega)) _))) hb1
    go_wp2_with fail
    go_ret
    exact ⟨⟨v, rfl, ho1, FB.ofB hb2 hb⟩, grown_of_below hb2⟩
theorem litFlag_le (b : Bool) : (litFlag b).length ≤ 5 := by cases b <;> simp [litFlag]
set_option maxHeartbeats 1000000 in
theorem appBool_in {base : Nat} (x : Bool) (v : Value) (l : List UInt8) (w : World) (ho : OwnB w base v l) (hb : base ≤ w.heap.size) (hl : l.length + (litFlag x).length ≤ 140737488355328) :
    Calls Tryz.prog 88 #[v, .bool x] w (OutR base w (l ++ litFlag x)) := by
  cases x
  all_goals
    go_enter Tryz.func88, Tryz.ntmps88
    go_wp2_with (at_builtin; refine app_str rfl _ _ rfl base v l rfl ho _ rfl hl (by omega) ?_)
    intro v' w2 ho2 hg
    go_wp2_with fail
    go_ret
    exact ⟨v', rfl, ho2, (FB.refl _ _).row ho hg hb⟩
set_option maxHeartbeats 1000000 in
theorem appBool_calls {base : Nat} (x : Bool) (v : Value) (l : List UInt8) (w : World) (ho : OwnB w base v l) (hb : base ≤ w.heap.size) (hl : l.length + (litFlag x).length ≤ 140737488355328) :
    Calls Tryz.prog 69 #[v, .bool x] w (OutR base w (l ++ litFlag x)) := by
  have C := Lib.hid (appBool_in x v l w ho hb hl)
  go_enter Tryz.func69, Tryz.ntmps69
  go_wp2_with fail
  refine C.out.mono ?_
  rintro e w1 ⟨v', rfl, ho1, hb1⟩
  go_wp2_with fail
  go_ret
  exact ⟨v', rfl, ho1, hb1⟩

end Go.Proofs.YtibopkodoidjoaaGreatDoor

/- Package tree: format of a list. -/
namespace Go.Proofs.YtibopkodoidjoaaGreatDoor
open Go Go.RowKit

@[go_sem] theorem as_NodeNull_NodeNull (v : Value) (w : World) : (Instr.typeAssert (.iface 90 v) 24 90 true).run Tryz.prog w = .ok (.tuple #[v, .bool true]) w := by kernel_rfl
@[go_sem] theorem as_NodeNull_NodeFlag (v : Value) (w : World) : (Instr.typeAssert (.iface 90 v) 24 92 true).run Tryz.prog w = .ok (.tuple #[.agg #[.int .i64 0, .bool false], .bool false]) w := by kernel_rfl
@[go_sem] theorem as_NodeNull_NodeNumber (v : Value) (w : World) : (Instr.typeAssert (.iface 90 v) 24 94 true).run Tryz.prog w = .ok (.tuple #[.agg #[.int .i64 0, .string ⟨#[]⟩], .bool false]) w := by kernel_rfl
@[go_sem] theorem as_NodeNull_NodeText (v : Value) (w : World) : (Instr.typeAssert (.iface 90 v) 24 95 true).run Tryz.prog w = .ok (.tuple #[.agg #[.int .i64 0, .string ⟨#[]⟩], .bool false]) w := by kernel_rfl
@[go_sem] theorem as_NodeNull_NodeList (v : Value) (w : World) : (Instr.typeAssert (.iface 90 v) 24 98 true).run Tryz.prog w = .ok (.tuple #[.agg #[.int .i64 0, .slice none 0 0], .bool false]) w := by kernel_rfl
@[go_sem] theorem as_NodeNull_NodeObject (v : Value) (w : World) : (Instr.typeAssert (.iface 90 v) 24 101 true).run Tryz.prog w = .ok (.tuple #[.agg #[.int .i64 0, .slice none 0 0], .bool false]) w := by kernel_rfl
@[go_sem] theorem as_NodeFlag_NodeNull (v : Value) (w : World) : (Instr.typeAssert (.iface 92 v) 24 90 true).run Tryz.prog w = .ok (.tuple #[.agg #[.int .i64 0], .bool false]) w := by kernel_rfl
@[go_sem] theorem as_NodeFlag_NodeFlag (v : Value) (w : World) : (Instr.typeAssert (.iface 92 v) 24 92 true).run Tryz.prog w = .ok (.tuple #[v, .bool true]) w := by kernel_rfl
@[go_sem] theorem as_NodeFlag_NodeNumber (v : Value) (w : World) : (Instr.typeAssert (.iface 92 v) 24 94 true).run Tryz.prog w = .ok (.tuple #[.agg #[.int .i64 0, .string ⟨#[]⟩], .bool false]) w := by kernel_rfl
@[go_sem] theorem as_NodeFlag_NodeText (v : Value) (w : World) : (Instr.typeAssert (.iface 92 v) 24 95 true).run Tryz.prog w = .ok (.tuple #[.agg #[.int .i64 0, .string ⟨#[]⟩], .bool false]) w := by kernel_rfl
@[go_sem] theorem as_NodeFlag_NodeList (v : Value) (w : World) : (Instr.typeAssert (.iface 92 v) 24 98 true).run Tryz.prog w = .ok (.tuple #[.agg #[.int .i64 0, .slice none 0 0], .bool false]) w := by kernel_rfl
@[go_sem] theorem as_NodeFlag_NodeObject (v : Value) (w : World) : (Instr.typeAssert (.iface 92 v) 24 101 true).run Tryz.prog w = .ok (.tuple #[.agg #[.int .i64 0, .slice none 0 0], .bool false]) w := by kernel_rfl
@[go_sem] theorem as_NodeNumber_NodeNull (v : Value) (w : World) : (Instr.typeAssert (.iface 94 v) 24 90 true).run Tryz.prog w = .ok (.tuple #[.agg #[.int .i64 0], .bool false]) w := by kernel_rfl
@[go_sem] theorem as_NodeNumber_NodeFlag (v : Value) (w : World) : (Instr.typeAssert (.iface 94 v) 24 92 true).run Tryz.prog w = .ok (.tuple #[.agg #[.int .i64 0, .bool false], .bool false]) w := by kernel_rfl
@[go_sem] theorem as_NodeNumber_NodeNumber (v : Value) (w : World) : (Instr.typeAssert (.iface 94 v) 24 94 true).run Tryz.prog w = .ok (.tuple #[v, .bool true]) w := by kernel_rfl
@[go_sem] theorem as_NodeNumber_NodeText (v : Value) (w : World) : (Instr.typeAssert (.iface 94 v) 24 95 true).run Tryz.prog w = .ok (.tuple #[.agg #[.int .i64 0, .string ⟨#[]⟩], .bool false]) w := by kernel_rfl
@[go_sem] theorem as_NodeNumber_NodeList (v : Value) (w : World) : (Instr.typeAssert (.iface 94 v) 24 98 true).run Tryz.prog w = .ok (.tuple #[.agg #[.int .i64 0, .slice none 0 0], .bool false]) w := by kernel_rfl
@[go_sem] theorem as_NodeNumber_NodeObject (v : Value) (w : World) : (Instr.typeAssert (.iface 94 v) 24 101 true).run Tryz.prog w = .ok (.tuple #[.agg #[.int .i64 0, .slice none 0 0], .bool false]) w := by kernel_rfl
@[go_sem] theorem as_NodeText_NodeNull (v : Value) (w : World) : (Instr.typeAssert (.iface 95 v) 24 90 true).run Tryz.prog w = .ok (.tuple #[.agg #[.int .i64 0], .bool false]) w := by kernel_rfl
@[go_sem] theorem as_NodeText_NodeFlag (v : Value) (w : World) : (Instr.typeAssert (.iface 95 v) 24 92 true).run Tryz.prog w = .ok (.tuple #[.agg #[.int .i64 0, .bool false], .bool false]) w := by kernel_rfl
@[go_sem] theorem as_NodeText_NodeNumber (v : Value) (w : World) : (Instr.typeAssert (.iface 95 v) 24 94 true).run Tryz.prog w = .ok (.tuple #[.agg #[.int .i64 0, .string ⟨#[]⟩], .bool false]) w := by kernel_rfl
@[go_sem] theorem as_NodeText_NodeText (v : Value) (w : World) : (Instr.typeAssert (.iface 95 v) 24 95 true).run Tryz.prog w = .ok (.tuple #[v, .bool true]) w := by kernel_rfl
@[go_sem] theorem as_NodeText_NodeList (v : Value) (w : World) : (Instr.typeAssert (.iface 95 v) 24 98 true).run Tryz.prog w = .ok (.tuple #[.agg #[.int .i64 0, .slice none 0 0], .bool false]) w := by kernel_rfl
@[go_sem] theorem as_NodeText_NodeObject (v : Value) (w : World) : (Instr.typeAssert (.iface 95 v) 24 101 true).run Tryz.prog w = .ok (.tuple #[.agg #[.int .i64 0, .slice none 0 0], .bool false]) w := by kernel_rfl
@[go_sem] theorem as_NodeList_NodeNull (v : Value) (w : World) : (Instr.typeAssert (.iface 98 v) 24 90 true).run Tryz.prog w = .ok (.tuple #[.agg #[.int .i64 0], .bool false]) w := by kernel_rfl
@[go_sem] theorem as_NodeList_NodeFlag (v : Value) (w : World) : (Instr.typeAssert (.iface 98 v) 24 92 true).run Tryz.prog w = .ok (.tuple #[.agg #[.int .i64 0, .bool false], .bool false]) w := by kernel_rfl
@[go_sem] theorem as_NodeList_NodeNumber (v : Value) (w : World) : (Instr.typeAssert (.iface 98 v) 24 94 true).run Tryz.prog w = .ok (.tuple #[.agg #[.int .i64 0, .string ⟨#[]⟩], .bool false]) w := by kernel_rfl
@[go_sem] theorem as_NodeList_NodeText (v : Value) (w : World) : (Instr.typeAssert (.iface 98 v) 24 95 true).run Tryz.prog w = .ok (.tuple #[.agg #[.int .i64 0, .string ⟨#[]⟩], .bool false]) w := by kernel_rfl
@[go_sem] theorem as_NodeList_NodeList (v : Value) (w : World) : (Instr.typeAssert (.iface 98 v) 24 98 true).run Tryz.prog w = .ok (.tuple #[v, .bool true]) w := by kernel_rfl
@[go_sem] theorem as_NodeList_NodeObject (v : Value) (w : World) : (Instr.typeAssert (.iface 98 v) 24 101 true).run Tryz.prog w = .ok (.tuple #[.agg #[.int .i64 0, .slice none 0 0], .bool false]) w := by kernel_rfl
@[go_sem] theorem as_NodeObject_NodeNull (v : Value) (w : World) : (Instr.typeAssert (.iface 101 v) 24 90 true).run Tryz.prog w = .ok (.tuple #[.agg #[.int .i64 0], .bool false]) w := by kernel_rfl
@[go_sem] theorem as_NodeObject_NodeFlag (v : Value) (w : World) : (Instr.typeAssert (.iface 101 v) 24 92 true).run Tryz.prog w = .ok (.tuple #[.agg #[.int .i64 0, .bool false], .bool false]) w := by kernel_rfl
@[go_sem] theorem as_NodeObject_NodeNumber (v : Value) (w : World) : (Instr.typeAssert (.iface 101 v) 24 94 true).run Tryz.prog w = .ok (.tuple #[.agg #[.int .i64 0, .string ⟨#[]⟩], .bool false]) w := by kernel_rfl
@[go_sem] theorem as_NodeObject_NodeText (v : Value) (w : World) : (Instr.typeAssert (.iface 101 v) 24 95 true).run Tryz.prog w = .ok (.tuple #[.agg #[.int .i64 0, .string ⟨#[]⟩], .bool false]) w := by kernel_rfl
@[go_sem] theorem as_NodeObject_NodeList (v : Value) (w : World) : (Instr.typeAssert (.iface 101 v) 24 98 true).run Tryz.prog w = .ok (.tuple #[.agg #[.int .i64 0, .slice none 0 0], .bool false]) w := by kernel_rfl
@[go_sem] theorem as_NodeObject_NodeObject (v : Value) (w : World) : (Instr.typeAssert (.iface 101 v) 24 101 true).run Tryz.prog w = .ok (.tuple #[v, .bool true]) w := by kernel_rfl
/-- The texts are small enough for Quote. -/
def smallT (t : ByteArray) : Prop := t.size ≤ 3518437208882
/-- What is asked of format at a node that lay in world w0. -/
def FmtC (A : Nat → Addr) (B : Nat) (w0 : World) (lo hi : Nat) (u : Value) (x : Nd) : Prop := ∀ w base v l, (∀ k, lo ≤ k → k < hi → w.heap[k]? = w0.heap[k]?) → Env A B SU w → hi ≤ base → base ≤ w.heap.size → B ≤ base → OwnB w base v l →
  l.length + (fmtN x).length ≤ 140737488355328 → allT smallT x → Calls Tryz.prog 39 #[v, u] w (OutR base w (l ++ fmtN x))
theorem sizeL (t : ByteArray) : t.data.toList.length = t.size := by rw [Array.length_toList]; rfl
section
variable {A : Nat → Addr} {B : Nat} {w0 : World}
set_option maxHeartbeats 1000000 in
set_option maxRecDepth 100000 in
theorem fmt_null (lo hi p : Nat)  : FmtC A B w0 lo hi (.iface 90 (.agg #[.int .i64 (p : Int)])) (.null p) := by
  intro w base v l hw hE hh hb hB ho hl hA
  rw [fmtN] at hl ⊢
  replace hw := Lib.hid hw
  replace ho := Lib.hid ho
  go_enter Tryz.func39, Tryz.ntmps39
  go_wp2_with (at_builtin; refine app_str rfl _ _ rfl base v l rfl (ho.out.alloc _) _ rfl hl (by simp; omega) ?_)
  intro v' w2 ho2 hg
  go_wp2_with fail
  go_ret
  exact ⟨v', rfl, ho2, ((FB.refl base w).alloc hb _).row (ho.out.alloc _) hg (by simp; omega)⟩
set_option maxHeartbeats 1000000 in
set_option maxRecDepth 100000 in
theorem fmt_num (lo hi p : Nat) (t : ByteArray) : FmtC A B w0 lo hi (.iface 94 (.agg #[.int .i64 (p : Int), .string t])) (.num p t) := by
  intro w base v l hw hE hh hb hB ho hl hA
  rw [fmtN] at hl ⊢
  replace hw := Lib.hid hw
  replace ho := Lib.hid ho
  go_enter Tryz.func39, Tryz.ntmps39
  go_wp2_with (at_builtin; refine app_str rfl _ _ rfl base v l rfl (ho.out.alloc _) _ rfl (by rw [← sizeL t]; exact hl) (by simp; omega) ?_)
  intro v' w2 ho2 hg
  go_wp2_with fail
  go_ret
  exact ⟨v', rfl, ho2, ((FB.refl base w).alloc hb _).row (ho.out.alloc _) hg (by simp; omega)⟩
set_option maxHeartbeats 1000000 in
set_option maxRecDepth 100000 in
theorem fmt_flag (lo hi p : Nat) (b : Bool) : FmtC A B w0 lo hi (.iface 92 (.agg #[.int .i64 (p : Int), .bool b])) (.flag p b) := by
  intro w base v l hw hE hh hb hB ho hl hA
  rw [fmtN] at hl ⊢
  replace hw := Lib.hid hw
  replace ho := Lib.hid ho
  go_enter Tryz.func39, Tryz.ntmps39
  (go_wp2_with fail; repeat (any_goals (go_quiet (fail); go_wp2_with fail)))
  refine (appBool_calls b v l _ (ho.out.alloc _) (by simp; omega) hl).mono ?_
  rintro e w2 ⟨v', rfl, ho2, hb2⟩
  go_wp2_with fail
  go_ret
  exact ⟨v', rfl, ho2, ((FB.refl _ _).alloc hb _).trans hb2⟩
set_option maxHeartbeats 1000000 in
set_option maxRecDepth 100000 in
theorem fmt_text (lo hi p : Nat) (t : ByteArray) : FmtC A B w0 lo hi (.iface 95 (.agg #[.int .i64 (p : Int), .string t])) (.text p t) := by
  intro w base v l hw hE hh hb hB ho hl hA
  rw [fmtN] at hl ⊢
  replace hw := Lib.hid hw
  replace ho := Lib.hid ho
  go_enter Tryz.func39, Tryz.ntmps39
  (go_wp2_with fail; repeat (any_goals (go_quiet (fail); go_wp2_with fail)))
  refine (quoted_calls t v l _ (hE.next (by repeat (first | assumption | exact Below.refl _ _ | apply Below.drew | apply below_drewN | apply balloc | (refine Below.setCell ?_ (by first | omega | (simp <;> omega)) _)))) (ho.out.alloc _) (by simp; omega) hA hl).mono ?_
  rintro e w2 ⟨⟨v', rfl, ho2, hb2⟩, _⟩
  go_wp2_with fail
  go_ret
  exact ⟨v', rfl, ho2, ((FB.refl _ _).alloc hb _).trans hb2⟩
end
theorem fmtL_app2 : ∀ (xs ys : List Nd) (b : Bool), fmtL b (xs ++ ys) = fmtL b xs ++ fmtL (b && xs.isEmpty) ys
  | [], ys, b => by rw [List.nil_append, fmtL]; simp
  | x :: xs, ys, b => by
    rw [List.cons_append, fmtL, fmtL, fmtL_app2 xs ys false]
    simp
theorem fmtM_app2 : ∀ (xs ys : List (ByteArray × Nat × Nd)) (b : Bool), fmtM b (xs ++ ys) = fmtM b xs ++ fmtM (b && xs.isEmpty) ys
  | [], ys, b => by rw [List.nil_append, fmtM]; simp
  | (k, p, x) :: xs, ys, b => by
    rw [List.cons_append, fmtM, fmtM, fmtM_app2 xs ys false]
    simp
theorem fmtL_take {xs : List Nd} {k : Nat} {x : Nd} (h : xs[k]? = some x) : fmtL true (xs.take (k + 1)) = fmtL true (xs.take k) ++ ((if k = 0 then [] else [44]) ++ fmtN x) := by
  have hk := (List.getElem?_eq_some_iff.1 h)
  obtain ⟨hk, hx⟩ := hk
  rw [List.take_succ_eq_append_getElem hk, hx, fmtL_app]
  congr 2
  by_cases h0 : k = 0
  · subst h0; simp
  · rw [if_neg h0, if_neg]
    simp
    exact ⟨h0, fun e => by rw [e] at hk; simp at hk⟩
theorem fmtM_take {xs : List (ByteArray × Nat × Nd)} {k : Nat} {t : ByteArray} {p : Nat} {x : Nd} (h : xs[k]? = some (t, p, x)) : fmtM true (xs.take (k + 1)) = fmtM true (xs.take k) ++ ((if k = 0 then [] else [44]) ++ (qN t ++ (58 :: fmtN x))) := by
  have hk := (List.getElem?_eq_some_iff.1 h)
  obtain ⟨hk, hx⟩ := hk
  rw [List.take_succ_eq_append_getElem hk, hx, fmtM_app]
  congr 2
  by_cases h0 : k = 0
  · subst h0; simp
  · rw [if_neg h0, if_neg]
    simp
    exact ⟨h0, fun e => by rw [e] at hk; simp at hk⟩
theorem fmtL_pre (xs : List Nd) (k : Nat) : (fmtL true (xs.take k)).length ≤ (fmtL true xs).length := by
  conv => rhs; rw [← List.take_append_drop k xs, fmtL_app2]
  rw [List.length_append]
  omega
theorem fmtM_pre (xs : List (ByteArray × Nat × Nd)) (k : Nat) : (fmtM true (xs.take k)).length ≤ (fmtM true xs).length := by
  conv => rhs; rw [← List.take_append_drop k xs, fmtM_app2]
  rw [List.length_append]
  omega
theorem rowCells {w : World} {base g n cap : Nat} {e : TypeId} {size : Nat} {xs : List Value} (h : w.ownsRow base e size (.slice (some ⟨g, 0, none⟩) n cap) n xs) {j : Nat} {u : Value} (hj : xs[j]? = some u) : w.cell? ⟨g, j, none⟩ = some u := by
  obtain ⟨h1, ⟨h2, _⟩ | ⟨g', cap', cur, h2, hbg, hg, hn, hc, hz, ht⟩⟩ := h
  · cases h2
  · cases h2
    refine cellB hg j ?_
    have hjl : j < xs.length := (List.getElem?_eq_some_iff.1 hj).1
    rw [← ht, List.getElem?_take_of_lt (by omega), Array.getElem?_toList] at hj
    exact hj
theorem rowForm2 {w : World} {base : Nat} {e : TypeId} {size : Nat} {v : Value} {n : Nat} {xs : List Value} (h : w.ownsRow base e size v n xs) : (n = 0 ∧ v = .slice none 0 0) ∨ ∃ g cap, v = .slice (some ⟨g, 0, none⟩) n cap ∧ base ≤ g ∧ g < w.heap.size ∧ n ≤ cap ∧ cap ≤ maxLen := by
  obtain ⟨h1, ⟨rfl, h3⟩ | ⟨g, cap, cur, rfl, hbg, hg, hn, hc, hz, ht⟩⟩ := h
  · exact Or.inl ⟨h3, rfl⟩
  · exact Or.inr ⟨g, cap, rfl, hbg, ltB hg, hn, hc⟩

end Go.Proofs.YtibopkodoidjoaaGreatDoor

/- The reference's tree: what the reader's objects need. -/
namespace Go.Proofs.YtibopkodoidjoaaGreatDoor
open Go Go.RowKit

/-- The three rows of an object's members. -/
structure R3 (base : Nat) (w : World) (vi vk vp : Value) (cs : List RKid) : Prop where
  i : w.ownsRow base 33 7 vi cs.length (cs.flatMap RKid.u)
  k : w.ownsRow base 9 1 vk cs.length (cs.map fun c => .string c.key)
  p : w.ownsRow base 3 1 vp cs.length (cs.map fun c => .int .i64 (c.pl : Int))
theorem R3.nil (base : Nat) (w : World) : R3 base w (.slice none 0 0) (.slice none 0 0) (.slice none 0 0) [] := ⟨World.ownsRow_nil _ _ _ _, World.ownsRow_nil _ _ _ _, World.ownsRow_nil _ _ _ _⟩
theorem R3.grown {base c : Nat} {w w' : World} {vi vk vp : Value} {cs : List RKid} (h : R3 base w vi vk vp cs) (hg : w.grownBy w' (some c)) (hc : c < base) : R3 base w' vi vk vp cs := ⟨row_grown h.i hg hc, row_grown h.k hg hc, row_grown h.p hg hc⟩
theorem R3.below {base : Nat} {w w' : World} {vi vk vp : Value} {cs : List RKid} (h : R3 base w vi vk vp cs) (hb : Below w.heap.size w w') : R3 base w' vi vk vp cs := ⟨row_below h.i hb, row_below h.k hb, row_below h.p hb⟩
theorem R3.base {n0 n1 : Nat} {w : World} {vi vk vp : Value} {cs : List RKid} (h : R3 n0 w vi vk vp cs) (hn : n1 ≤ n0) : R3 n1 w vi vk vp cs := ⟨ownsRow_base h.i hn, ownsRow_base h.k hn, ownsRow_base h.p hn⟩
theorem R3.sl {base : Nat} {w : World} {vi vk vp : Value} {cs : List RKid} (h : R3 base w vi vk vp cs) : isSl vi ∧ isSl vk ∧ isSl vp := ⟨ownsRow_sl h.i, ownsRow_sl h.k, ownsRow_sl h.p⟩
/-- Rows of elements of unlike types lie in unlike blocks. -/
theorem rows_ne {w : World} {n1 n2 s1 s2 m1 m2 : Nat} {e1 e2 : TypeId} {v1 v2 : Value} {xs1 xs2 : List Value} (h1 : w.ownsRow n1 e1 s1 v1 m1 xs1) (h2 : w.ownsRow n2 e2 s2 v2 m2 xs2) (he : e1 ≠ e2) : ∀ k, v1.ownBlock = some k → v2.ownBlock ≠ some k := by
  intro k hk hk2
  obtain ⟨_, h3 | ⟨g, cap, cur, rfl, _, hg, _⟩⟩ := h1
  · rw [h3.1] at hk; cases hk
  obtain ⟨_, h4 | ⟨g2, cap2, cur2, rfl, _, hg2, _⟩⟩ := h2
  · rw [h4.1] at hk2; cases hk2
  cases hk
  cases hk2
  rw [hg] at hg2
  simp only [Option.some.injEq, Obj.cells.injEq] at hg2
  exact he hg2.2.1
/-- A world behind another: only these blocks have turned. -/
structure GB (w w' : World) (S : List (Option Nat)) : Prop where
  os : w'.os = w.os
  tape : w'.tape = w.tape
  output : w'.output = w.output
  size : w.heap.size ≤ w'.heap.size
  block : ∀ k, k < w.heap.size → (∀ o ∈ S, o ≠ some k) → w'.heap[k]? = w.heap[k]?
theorem GB.of {w w' : World} {S : List (Option Nat)} (hb : Below w.heap.size w w') : GB w w' S := ⟨hb.os, hb.tape, hb.output, hb.size, fun k h _ => hb.block k h⟩
theorem GB.app {w w' w'' : World} {S : List (Option Nat)} {o : Option Nat} (h : GB w w' S) (hg : w'.grownBy w'' o) (ho : o ∈ S) : GB w w'' S :=
  ⟨hg.os.trans h.os, hg.tape.trans h.tape, hg.output.trans h.output, Nat.le_trans h.size hg.size, fun k hk hS => (hg.block k (Nat.lt_of_lt_of_le hk h.size) (fun e => hS o ho e.symm)).trans (h.block k hk hS)⟩
theorem GB.al {w w' : World} {S : List (Option Nat)} (h : GB w w' S) (o : Obj) : GB w (w'.alloc o) S :=
  ⟨h.os, h.tape, h.output, by have := h.size; simp; omega, fun k hk hS => by
    have h1 := (Below.refl w'.heap.size w').alloc (Nat.le_refl _) o
    exact (h1.block k (Nat.lt_of_lt_of_le hk h.size)).trans (h.block k hk hS)⟩
theorem GB.grown {w w' : World} {S : List (Option Nat)} {b : Nat} {a : World} (h : GB w w' S) (k : a.grownBy w (some b)) (hS : ∀ j, some j ∈ S → a.heap.size ≤ j) : a.grownBy w' (some b) :=
  ⟨h.os.trans k.os, h.tape.trans k.tape, h.output.trans k.output, Nat.le_trans k.size h.size, fun i hi hr => (h.block i (Nat.lt_of_lt_of_le hi k.size) (fun o ho e => by subst e; have := hS i ho; omega)).trans (k.block i hi hr)⟩
theorem GB.keep {w w' : World} {S : List (Option Nat)} {g : Nat} {o : Obj} (h : GB w w' S) (hg : w.heap[g]? = some o) (hS : ∀ j, some j ∈ S → g ≠ j) : w'.heap[g]? = some o :=
  (h.block g (ltB hg) (fun o ho e => by subst e; exact hS g ho rfl)).trans hg
theorem RKids.gb {n0 n : Nat} {w w' : World} {oi ok op oi' ok' op' : Option Nat} {cs : List RKid} (h : RKids n0 w [oi, ok, op] cs) (hg : GB w w' [some n, ok, op, oi]) (hn : n < n0)
    (h1 : oi' = oi ∨ ∃ g, oi' = some g ∧ w.heap.size ≤ g) (h2 : ok' = ok ∨ ∃ g, ok' = some g ∧ w.heap.size ≤ g) (h3 : op' = op ∨ ∃ g, op' = some g ∧ w.heap.size ≤ g) : RKids n0 w' [oi', ok', op'] cs := by
  refine ⟨fun c hm => (h.fit c hm).wide (Nat.le_refl _) hg.size, fun c hm o' ho' k hk => ?_, fun c hm => (h.kid c hm).keep fun k k1 k2 => hg.block k (Nat.lt_of_lt_of_le k2 (h.fit c hm).2.2) fun o ho e => ?_⟩
  · have hnew : ∀ (o o' : Option Nat), (o' = o ∨ ∃ g, o' = some g ∧ w.heap.size ≤ g) → o ∈ [oi, ok, op] → o' = some k → k < c.l ∨ c.h ≤ k := by
      intro o o' hh ho e
      rcases hh with rfl | ⟨g, rfl, hg2⟩
      · exact h.off c hm o' ho k e
      · cases e
        exact Or.inr (Nat.le_trans (h.fit c hm).2.2 hg2)
    simp only [List.mem_cons, List.not_mem_nil, or_false] at ho'
    rcases ho' with rfl | rfl | rfl
    · exact hnew _ _ h1 (by simp) hk
    · exact hnew _ _ h2 (by simp) hk
    · exact hnew _ _ h3 (by simp) hk
  · have hoff : ∀ o ∈ [oi, ok, op], o = some k → False := fun o ho e => by have := h.off c hm o ho k e; omega
    simp only [List.mem_cons, List.not_mem_nil, or_false] at ho
    rcases ho with rfl | rfl | rfl | rfl
    · cases e; have := (h.fit c hm).1; omega
    · exact hoff _ (by simp) e
    · exact hoff _ (by simp) e
    · exact hoff _ (by simp) e
theorem al_keep {W : World} {g : Nat} {o o' : Obj} (h : W.heap[g]? = some o) : (W.alloc o').heap[g]? = some o := (((Below.refl W.heap.size W).alloc (Nat.le_refl _) o').block g (ltB h)).trans h
theorem gr_keep {W w1 : World} {g : Nat} {o : Obj} {b : Option Nat} (hg : W.grownBy w1 b) (h : W.heap[g]? = some o) (hne : b ≠ some g) : w1.heap[g]? = some o := (hg.block g (ltB h) (fun e => hne e.symm)).trans h
theorem gr_row {W w1 : World} {n0 n size : Nat} {e : TypeId} {v : Value} {xs : List Value} {b : Option Nat} (hg : W.grownBy w1 b) (h : W.ownsRow n0 e size v n xs) (hne : ∀ k, v.ownBlock = some k → b ≠ some k) : w1.ownsRow n0 e size v n xs :=
  ownsRow_heap h fun k hk => hg.block k (h.lt k hk).2 (fun e => hne k hk e.symm)
section
variable {ops : Array Oper} {o : Oper} {a : Act} {Q : Exit → Act → World → Prop} {w : World} {K : Act → World → Prop} {E : Prop}
/-- append(row, one), in a region that draws. -/
theorem step_app_row (hgd : o.guard = none) (sl x : Operand) (t e : TypeId) (size bytes : Nat) (z : Value) (hi : (Tryz.prog.info? e).map (fun i => (i.zero, i.size, i.bytes)) = some (some z, size, bytes)) (hz : z.cells.size = size) (hsz : 0 < size) (hby : bytes ≤ 112)
    (ht : Tryz.prog.underlying t = some (.slice e)) (ho : o.op = .call { callee := .builtin .append, args := #[sl, x], argTypes := #[t, t] }) (n0 : Nat) (v : Value) (n : Nat) (xs : List Value) (hs : a.eval sl = v) (hK : w.ownsRow n0 e size v n xs)
    (g cp : Nat) (ys : List Value) (cur : Array Value) (t' : TypeId) (hx : a.eval x = .slice (some ⟨g, 0, none⟩) 1 cp) (hg : w.heap[g]? = some (.cells cur t' (0, 0))) (hcur : cur = ys.toArray) (hys : ys.length = size)
    (hlen : n + 1 ≤ 2097152) (hn : n0 ≤ w.heap.size) (h1 : ∀ u ∈ ys, u.oneCell' = true)
    (h : ∀ v' w', w'.ownsRow n0 e size v' (n + 1) (xs ++ ys) → w.grownBy w' v.ownBlock → (v'.ownBlock = v.ownBlock ∨ ∃ g, v'.ownBlock = some g ∧ w.heap.size ≤ g) → isSl v' → K (a.put o.dst v') w') : if Region.wanted o (yielded ops a.tmps) = true then Oper.wp Tryz.prog o a w K Q else E := by
  obtain ⟨i0, hi, hi2⟩ := Option.map_eq_some_iff.1 hi
  simp only [Prod.mk.injEq] at hi2
  refine step_append_lies w hgd sl x t ho n0 e i0 z size bytes ht hi hi2.1 hi2.2.1 hi2.2.2 hz hsz v n xs hs hK ⟨g, 0, none⟩ 1 cp ys hx (by rw [hys]; omega) ?_ h1 (by decide) (by unfold maxLen; omega) ?_ hn w.heap.size rfl ?_
  · intro j u hj
    have : (⟨g, 0, none⟩ : Addr).add j = ⟨g, j, none⟩ := by simp only [Addr.add, Nat.zero_add]; split <;> simp_all
    rw [this]
    refine cellB hg j ?_
    rw [hcur, List.getElem?_toArray]
    exact hj
  · have := Nat.mul_le_mul hlen hby
    omega
  · intro g2 cap w' ho2 hg2 hv _
    refine h _ w' ho2 hg2 ?_ ⟨_, _, _, rfl⟩
    rcases hv with hv | hv
    · exact Or.inl hv.symm
    · exact Or.inr ⟨g2, rfl, by omega⟩
end
/-- What members answers. -/
def PostRM (s : ByteArray) (v : Value) (n pl0 P b : Nat) (w : World) (r : PR (List (ByteArray × Nat × Nd))) (e : Ending) (w' : World) : Prop :=
  w.grownBy w' (some b) ∧ ∃ vi vk vp, e = .returned (.agg #[.int .i64 5, .int .i64 (P : Int), .bool false, .string ⟨#[]⟩, vi, vk, vp]) ∧ match r with
    | .ok xs q => ∃ cs : List RKid, R3 w.heap.size w' vi vk vp cs ∧ RKids w.heap.size w' [vi.ownBlock, vk.ownBlock, vp.ownBlock] cs ∧ cs.map RKid.mem = xs ∧ RdB s v q pl0 0 b w'
    | .err k pl => (isSl vi ∧ isSl vk ∧ isSl vp) ∧ ∃ q, q ≤ n ∧ RdB s v q pl k b w'
    | .out => True
theorem text_eq {s t : ByteArray} (h : s.data.toList = t.data.toList) : s = t := by
  apply ByteArray.ext
  exact Array.toList_inj.1 h
theorem text_ne {s t : ByteArray} (h : s ≠ t) : (s.toList == t.toList) = false := by
  rw [toL, toL]
  simp
  intro h2
  exact h (text_eq (by simpa using h2))
/-- fail, whatever the fault. -/
theorem rfail_u (s : ByteArray) (v : Value) (p pl k b q kk : Nat) (w : World) (hr : RdB s v p pl k b w) :
    Calls Tryz.prog 35 #[.pointer (some ⟨b, 0, none⟩), .int .i64 (q : Int), .int .i64 (kk : Int)] w fun e w' => e = .returned (.tuple #[]) ∧ w.grownBy w' (some b) ∧
      ∃ pl' k', RdB s v p pl' k' b w' ∧ ((k ≠ 0 ∧ pl' = pl ∧ k' = k) ∨ (k = 0 ∧ pl' = q ∧ k' = kk)) := by
  by_cases h0 : k = 0
  · subst h0
    refine (rfail_new s v p pl b q kk w hr).mono ?_
    rintro e w' ⟨rfl, h1, h2⟩
    exact ⟨rfl, h2, _, _, h1, Or.inr ⟨rfl, rfl, rfl⟩⟩
  · refine (rfail_old s v p pl b q kk k w hr h0).mono ?_
    rintro e w' ⟨rfl, hb⟩
    exact ⟨rfl, grown_of_below hb, _, _, hr.next hb, Or.inl ⟨h0, rfl, rfl⟩⟩
theorem knows_iff (l : List ByteArray) (t : ByteArray) : knows l t = true ↔ t ∈ l := by
  unfold knows
  rw [List.any_eq_true]
  constructor
  · rintro ⟨u, hu, h⟩
    have := of_decide_eq_true h
    subst this
    exact hu
  · intro h
    exact ⟨t, h, decide_eq_true rfl⟩

theorem infoS18 : (Tryz.prog.info? 9).map (fun i => (i.zero, i.size, i.bytes)) = some (some (.string ⟨#[]⟩), 1, 16) := by kernel_rfl
theorem infoI18 : (Tryz.prog.info? 3).map (fun i => (i.zero, i.size, i.bytes)) = some (some (.int .i64 0), 1, 8) := by kernel_rfl
theorem tf {b : Bool} {p : Prop} (h : b = true) : b = false → p := fun h2 => by rw [h] at h2; cases h2
theorem own_tr {o o' : Option Nat} {a b : Nat} (h : o' = o ∨ ∃ g, o' = some g ∧ a ≤ g) (hb : b ≤ a) : o' = o ∨ ∃ g, o' = some g ∧ b ≤ g := by
  rcases h with h | ⟨g, h1, h2⟩
  · exact Or.inl h
  · exact Or.inr ⟨g, h1, Nat.le_trans hb h2⟩
theorem drewR {w : World} {n0 n size : Nat} {e : TypeId} {v : Value} {xs : List Value} (h : w.ownsRow n0 e size v n xs) : w.drew.ownsRow n0 e size v n xs := ownsRow_heap h fun _ _ => rfl
/-- The three rows with one more member. -/
structure A3 (base : Nat) (w : World) (vi vk vp : Value) (m : Nat) (cs : List RKid) (key : ByteArray) (P : Nat) (u : List Value) : Prop where
  i : w.ownsRow base 33 7 vi (m + 1) (cs.flatMap RKid.u ++ u)
  k : w.ownsRow base 9 1 vk (m + 1) ((cs.map fun c => .string c.key) ++ [.string key])
  p : w.ownsRow base 3 1 vp (m + 1) ((cs.map fun c => .int .i64 (c.pl : Int)) ++ [.int .i64 (P : Int)])
theorem A3.r3 {base : Nat} {w : World} {vi vk vp : Value} {m : Nat} {cs : List RKid} {c : RKid} (h : A3 base w vi vk vp m cs c.key c.pl c.u) (hm : m = cs.length) : R3 base w vi vk vp (cs ++ [c]) := by
  refine ⟨?_, ?_, ?_⟩
  · rw [List.length_append, List.flatMap_append, List.flatMap_cons, List.flatMap_nil, List.append_nil, ← hm]; exact h.i
  · rw [List.length_append, List.map_append, ← hm]; exact h.k
  · rw [List.length_append, List.map_append, ← hm]; exact h.p
theorem A3.sl {base : Nat} {w : World} {vi vk vp : Value} {m : Nat} {cs : List RKid} {key : ByteArray} {P : Nat} {u : List Value} (h : A3 base w vi vk vp m cs key P u) : isSl vi ∧ isSl vk ∧ isSl vp := ⟨ownsRow_sl h.i, ownsRow_sl h.k, ownsRow_sl h.p⟩
theorem ne_hi {o : Option Nat} {lo hi g : Nat} (h : ∀ k, o = some k → lo ≤ k ∧ k < hi) (hg : hi ≤ g) : o ≠ some g := fun e => Nat.lt_irrefl _ (Nat.lt_of_lt_of_le (h g e).2 hg)
theorem ne_lo {o : Option Nat} {lo hi g : Nat} (h : ∀ k, o = some k → lo ≤ k ∧ k < hi) (hg : g < lo) : o ≠ some g := fun e => Nat.lt_irrefl _ (Nat.lt_of_lt_of_le hg (h g e).1)

end Go.Proofs.YtibopkodoidjoaaGreatDoor
