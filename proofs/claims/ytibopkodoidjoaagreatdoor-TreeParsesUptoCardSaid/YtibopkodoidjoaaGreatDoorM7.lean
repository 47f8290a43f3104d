/- Lemmas of the proof, put together: QuoteW, TreeLen, Fmt1, Fmt2, Rd9, TreeAt, Is, Is2, Fmt3, StepApp, Fmt4, Is3. -/
import Derived.Test.YtibopkodoidjoaaGreatDoorM2
import Derived.Test.YtibopkodoidjoaaGreatDoorM4
import Derived.Test.YtibopkodoidjoaaGreatDoorM1
import Derived.Test.YtibopkodoidjoaaGreatDoorM6
import Derived.Test.YtibopkodoidjoaaGreatDoorM5
import Derived.Deep.RegionLaw

/- Package scan: Quote. -/
namespace Go.Proofs.YtibopkodoidjoaaGreatDoor
open Go Go.RowKit

theorem errV_1 (A : Nat → Addr) : errV A 1 = .iface 237 (.pointer (some (A 1))) := rfl
theorem hexL_hi : ∀ c : Nat, c < 32 → ((hexL.getD (c / 16) 0).toNat : Int) = 48 + (c : Int) / 16 := by decide +kernel
theorem hexB_at : ∀ m : Nat, m < 16 → bAt ⟨#[48, 49, 50, 51, 52, 53, 54, 55, 56, 57, 97, 98, 99, 100, 101, 102]⟩ m = (hexL.getD m 0).toNat := by decide +kernel
theorem hexB_at2 (c : Nat) : ∀ h, (((⟨#[48, 49, 50, 51, 52, 53, 54, 55, 56, 57, 97, 98, 99, 100, 101, 102]⟩ : ByteArray)[c % 16]'h).toNat : Int) = ((hexL.getD (c % 16) 0).toNat : Int) := fun h => by
  rw [bAt_eq, hexB_at _ (Nat.mod_lt _ (by decide))]
/-- What is written when k bytes are through. -/
def quoteK (s : ByteArray) (k : Nat) : List UInt8 := 34 :: (s.data.toList.take k).flatMap escB
theorem quoteK_succ {s : ByteArray} {k : Nat} (h : k < s.size) : quoteK s (k + 1) = quoteK s k ++ escB (UInt8.ofNat (bAt s k)) := by
  have hl : s.data.toList.length = s.size := by rw [Array.length_toList]; rfl
  unfold quoteK
  rw [List.take_succ_eq_append_getElem (by omega), List.flatMap_append, List.cons_append]
  have e : s.data.toList[k]'(by omega) = UInt8.ofNat (bAt s k) := by
    rw [← bAt_eq s k h]
    simp; rfl
  rw [e]
  simp
theorem escB_len (b : UInt8) : (escB b).length ≤ 6 := by
  unfold escB; repeat' split
  all_goals simp
theorem quoteK_len (s : ByteArray) : ∀ k, k ≤ s.size → (quoteK s k).length ≤ 1 + 6 * k
  | 0, _ => by simp [quoteK]
  | k + 1, h => by
    rw [quoteK_succ (by omega), List.length_append]
    have := quoteK_len s k (by omega)
    have := escB_len (UInt8.ofNat (bAt s k))
    omega
theorem quoteK_end (s : ByteArray) : (⟨(quoteK s s.size ++ [34]).toArray⟩ : ByteArray) = quoteS s := by
  have hl : s.data.toList.length = s.size := by rw [Array.length_toList]; rfl
  unfold quoteS quoteL quoteK
  rw [List.take_of_length_le (by omega)]
  rfl
theorem u8n {c : Nat} (h : c < 256) : (UInt8.ofNat c).toNat = c := by rw [UInt8.toNat_ofNat']; omega
theorem escB_two {c : Nat} (h : c < 256) (h2 : c = 34 ∨ c = 92) : escB (UInt8.ofNat c) = [92, UInt8.ofNat c] := by
  unfold escB; rw [if_pos]; rcases h2 with rfl | rfl <;> simp
theorem escB_six {c : Nat} (h : c < 32) : escB (UInt8.ofNat c) = [92, 117, 48, 48, hexL.getD (c / 16) 0, hexL.getD (c % 16) 0] := by
  have hc := u8n (c := c) (by omega)
  unfold escB
  rw [if_neg, if_pos (by rw [hc]; exact h), hc]
  rintro (e | e) <;> (have := congrArg UInt8.toNat e; rw [hc] at this; simp at this; omega)
theorem escB_one {c : Nat} (h : c < 256) (h2 : c ≠ 34) (h3 : c ≠ 92) (h4 : ¬ c < 32) : escB (UInt8.ofNat c) = [UInt8.ofNat c] := by
  have hc := u8n h
  unfold escB
  rw [if_neg, if_neg (by rw [hc]; exact h4)]
  rintro (e | e) <;> (have := congrArg UInt8.toNat e; rw [hc] at this; simp at this; omega)
set_option maxHeartbeats 4000000 in
set_option maxRecDepth 100000 in
theorem Quote_calls {A : Nat → Addr} {B : Nat} (s : ByteArray) (w : World) (hE : Env A B SU w) (hs : s.size ≤ 3518437208882) :
    Calls Tryz.prog 44 #[.string s] w fun e w' => e = .returned (if utfE s = 0 then .tuple #[.string (quoteS s), .nilIface] else .tuple #[.string ⟨#[]⟩, .iface 237 (.pointer (some (A 1)))]) ∧ Below w.heap.size w w' := by
  have hs' : (s.size : Int) ≤ 3518437208882 := by omega
  have C := Lib.hid (fun w hE => scalarsCheck_calls (A := A) (B := B) s w (by omega) hE)
  by_cases hu : utfE s = 0
  · rw [if_pos hu]
    rw [hu] at C
    replace C : Hid (∀ w, Env A B SU w → Calls Tryz.prog 71 #[.string s] w fun e w' => e = .returned (.tuple #[.int .i64 (brkAt s 0), .nilIface]) ∧ Below w.heap.size w w') := C
    replace hu := Lib.hid hu
    generalize brkAt s 0 = p at *
    obtain ⟨R, hR⟩ : ∃ R, R = quoteS s := ⟨_, rfl⟩
    rw [← hR]
    replace hR := Lib.hid hR
    replace hs := Lib.hid hs
    go_enter Tryz.func44, Tryz.ntmps44
    (go_wp2_with fail; repeat (any_goals (go_quiet (fail); go_wp2_with fail)))
    refine (C.out _ (hE.next (by repeat (first | assumption | exact Below.refl _ _ | apply Below.drew | apply below_drewN | apply balloc | (refine Below.setCell ?_ (by first | omega | (simp <;> omega)) _))))).mono ?_
    rintro e w1 ⟨rfl, hb⟩
    have hb1 : Below w.heap.size w w1 := bcall (by repeat (first | assumption | exact Below.refl _ _ | apply Below.drew | apply below_drewN | apply balloc | (refine Below.setCell ?_ (by first | omega | (simp <;> omega)) _))) hb
    have hz1 := hb1.size
    clear hb C
    (go_wp2_with fail; repeat (any_goals (go_quiet (fail); go_wp2_with fail)))
    go_loopw [20, 6] (fun v20 v6 wr => ∃ k : Nat, k ≤ s.size ∧ v20 = .int .i64 (k : Int) ∧ Hid (OwnB wr w.heap.size v6 (quoteK s k)) ∧ Below w.heap.size w wr) (fun v _ _ => s.size - (intOf v).toNat)
    case atStart => exact ⟨0, Nat.zero_le _, rfl, Lib.hid (OwnB.lit [34] _ rfl hz1 (by decide) rfl rfl), (by repeat (first | assumption | exact Below.refl _ _ | apply Below.drew | apply below_drewN | apply balloc | (refine Below.setCell ?_ (by first | omega | (simp <;> omega)) _)))⟩
    case round =>
      clear hb1 hz1
      obtain ⟨k, hk, rfl, ho1, hB⟩ := hrel
      have hx := byte_at s k
      have hz := hB.size
      have hql := Lib.hid (quoteK_len s k hk)
      by_cases hlt : k < s.size
      · have hlt' : (k : Int) < (s.size : Int) := by omega
        have hc := bAt_lt s k
        have hS := Lib.hid (quoteK_succ hlt)
        by_cases h2 : bAt s k = 34 ∨ bAt s k = 92
        · have hesc := Lib.hid (escB_two hc h2)
          have hn := Lib.hid (u8n hc)
          generalize bAt s k = c at *
          by_cases h34 : c = 34
          · have h34' : ((c : Int) == 34) = true := by simp; omega
            replace h34 := Lib.hid h34
            replace h2 := Lib.hid h2
            go_wp2_with (at_builtin; refine app_lit rfl _ _ rfl w.heap.size _ (quoteK s k) rfl (show OwnB _ _ _ _ from World.ownsRow.alloc ho1.out _) _ 2 2 _ _ _ [92, UInt8.ofNat c] rfl (heap_alloc_new _ _) ?c1 rfl (by have := hql.out; have := hs.out; omega) (by simp; omega) ?_)
            case c1 => unfold u8c; simp only [List.map_cons, List.map_nil, hn.out]; rfl
            intro v' w2 ho2 hg
            have hb2 := below_own (hB.alloc hz _) (show OwnB _ _ _ _ from World.ownsRow.alloc ho1.out _) hg (by simp; omega)
            replace ho2 := Lib.hid ho2
            clear hg
            (go_wp2_with fail; repeat (any_goals (go_quiet (fail); go_wp2_with fail)))
            go_roundw
            case measure => simp [intOf]; omega
            case rel => exact ⟨k + 1, by omega, by go_num, Lib.hid (by rw [hS.out, hesc.out]; exact ho2.out), by assumption⟩
          · have h34' : ((c : Int) == 34) = false := by simp; omega
            have h92' : ((c : Int) == 92) = true := by simp; omega
            replace h34 := Lib.hid h34
            replace h2 := Lib.hid h2
            go_wp2_with (at_builtin; refine app_lit rfl _ _ rfl w.heap.size _ (quoteK s k) rfl (show OwnB _ _ _ _ from World.ownsRow.alloc ho1.out _) _ 2 2 _ _ _ [92, UInt8.ofNat c] rfl (heap_alloc_new _ _) ?c1 rfl (by have := hql.out; have := hs.out; omega) (by simp; omega) ?_)
            case c1 => unfold u8c; simp only [List.map_cons, List.map_nil, hn.out]; rfl
            intro v' w2 ho2 hg
            have hb2 := below_own (hB.alloc hz _) (show OwnB _ _ _ _ from World.ownsRow.alloc ho1.out _) hg (by simp; omega)
            replace ho2 := Lib.hid ho2
            clear hg
            (go_wp2_with fail; repeat (any_goals (go_quiet (fail); go_wp2_with fail)))
            go_roundw
            case measure => simp [intOf]; omega
            case rel => exact ⟨k + 1, by omega, by go_num, Lib.hid (by rw [hS.out, hesc.out]; exact ho2.out), by assumption⟩
        · have h34' : ((bAt s k : Int) == 34) = false := by simp; omega
          have h92' : ((bAt s k : Int) == 92) = false := by simp; omega
          by_cases h32 : bAt s k < 32
          · have hesc := Lib.hid (escB_six h32)
            have h32' : (bAt s k : Int) < 32 := by omega
            have e1 := Lib.hid (hexL_hi _ h32)
            have e2 := Lib.hid (hexB_at2 (bAt s k))
            generalize bAt s k = c at *
            replace h2 := Lib.hid h2
            go_wp2_with (at_builtin; refine app_lit rfl _ _ rfl w.heap.size _ (quoteK s k) rfl (show OwnB _ _ _ _ from World.ownsRow.alloc ho1.out _) _ 6 6 _ _ _ [92, 117, 48, 48, hexL.getD (c / 16) 0, hexL.getD (c % 16) 0] rfl (heap_alloc_new _ _) ?c1 rfl (by have := hql.out; have := hs.out; omega) (by simp; omega) ?_)
            case c1 => unfold u8c; simp only [List.map_cons, List.map_nil, e1.out, e2.out]; rfl
            intro v' w2 ho2 hg
            have hb2 := below_own (hB.alloc hz _) (show OwnB _ _ _ _ from World.ownsRow.alloc ho1.out _) hg (by simp; omega)
            replace ho2 := Lib.hid ho2
            clear hg
            (go_wp2_with fail; repeat (any_goals (go_quiet (fail); go_wp2_with fail)))
            go_roundw
            case measure => simp [intOf]; omega
            case rel => exact ⟨k + 1, by omega, by go_num, Lib.hid (by rw [hS.out, hesc.out]; exact ho2.out), by assumption⟩
          · have h32' : ¬ (bAt s k : Int) < 32 := by omega
            have hesc := Lib.hid (escB_one hc (fun h => h2 (Or.inl h)) (fun h => h2 (Or.inr h)) h32)
            have hn := Lib.hid (u8n hc)
            generalize bAt s k = c at *
            replace h2 := Lib.hid h2
            go_wp2_with (at_builtin; refine app_lit rfl _ _ rfl w.heap.size _ (quoteK s k) rfl (show OwnB _ _ _ _ from World.ownsRow.alloc ho1.out _) _ 1 1 _ _ _ [UInt8.ofNat c] rfl (heap_alloc_new _ _) ?c1 rfl (by have := hql.out; have := hs.out; omega) (by simp; omega) ?_)
            case c1 => unfold u8c; simp only [List.map_cons, List.map_nil, hn.out]
            intro v' w2 ho2 hg
            have hb2 := below_own (hB.alloc hz _) (show OwnB _ _ _ _ from World.ownsRow.alloc ho1.out _) hg (by simp; omega)
            replace ho2 := Lib.hid ho2
            clear hg
            (go_wp2_with fail; repeat (any_goals (go_quiet (fail); go_wp2_with fail)))
            go_roundw
            case measure => simp [intOf]; omega
            case rel => exact ⟨k + 1, by omega, by go_num, Lib.hid (by rw [hS.out, hesc.out]; exact ho2.out), by assumption⟩
      · obtain rfl : k = s.size := by omega
        have hend := Lib.hid (quoteK_end s)
        go_wp2_with (at_builtin; refine app_lit rfl _ _ rfl w.heap.size _ (quoteK s s.size) rfl (show OwnB _ _ _ _ from World.ownsRow.alloc ho1.out _) _ 1 1 _ _ _ [34] rfl (heap_alloc_new _ _) rfl rfl (by have := hql.out; have := hs.out; omega) (by simp; omega) ?_)
        intro v' w2 ho2 hg
        have hb2 := below_own (hB.alloc hz _) (show OwnB _ _ _ _ from World.ownsRow.alloc ho1.out _) hg (by simp; omega)
        have hcv := conv_own ho2
        rw [hend.out, ← hR.out] at hcv
        replace ho2 := Lib.hid ho2
        clear hg
        (go_wp2_with fail; repeat (any_goals (go_quiet (fail); go_wp2_with fail)))
        go_ret2
        exact ⟨rfl, hb2⟩
  · rw [if_neg hu]
    have hu1 : utfE s = 1 := by
      unfold utfE at hu ⊢
      split at hu
      · rename_i h; rw [if_pos h]
      · exact absurd rfl hu
    rw [hu1] at C
    replace C : Hid (∀ w, Env A B SU w → Calls Tryz.prog 71 #[.string s] w fun e w' => e = .returned (.tuple #[.int .i64 (brkAt s 0), .iface 237 (.pointer (some (A 1)))]) ∧ Below w.heap.size w w') := C
    replace hu := Lib.hid hu
    replace hu1 := Lib.hid hu1
    generalize brkAt s 0 = p at *
    go_enter Tryz.func44, Tryz.ntmps44
    (go_wp2_with fail; repeat (any_goals (go_quiet (fail); go_wp2_with fail)))
    refine (C.out _ (hE.next (by repeat (first | assumption | exact Below.refl _ _ | apply Below.drew | apply below_drewN | apply balloc | (refine Below.setCell ?_ (by first | omega | (simp <;> omega)) _))))).mono ?_
    rintro e w1 ⟨rfl, hb⟩
    have hb1 : Below w.heap.size w w1 := bcall (by repeat (first | assumption | exact Below.refl _ _ | apply Below.drew | apply below_drewN | apply balloc | (refine Below.setCell ?_ (by first | omega | (simp <;> omega)) _))) hb
    have e1 := (hE.next hb1).e1
    clear hb C
    (go_wp2_with fail; repeat (any_goals (go_quiet (fail); go_wp2_with fail)))
    all_goals
      go_ret2
      exact ⟨rfl, (by repeat (first | assumption | exact Below.refl _ _ | apply Below.drew | apply below_drewN | apply balloc | (refine Below.setCell ?_ (by first | omega | (simp <;> omega)) _)))⟩

end Go.Proofs.YtibopkodoidjoaaGreatDoor

/- Package tree, plain laws: what holds of every text of a node; how long a node's text can be. No program in sight. -/
namespace Go.Proofs.YtibopkodoidjoaaGreatDoor
open Go Go.RowKit

mutual
/-- P holds of every text and key. -/
def allT (P : ByteArray → Prop) : Nd → Prop
  | .null _ => True
  | .flag _ _ => True
  | .num _ _ => True
  | .text _ t => P t
  | .lst _ xs => allL P xs
  | .obj _ xs => allM P xs
def allL (P : ByteArray → Prop) : List Nd → Prop
  | [] => True
  | x :: xs => allT P x ∧ allL P xs
def allM (P : ByteArray → Prop) : List (ByteArray × Nat × Nd) → Prop
  | [] => True
  | (k, _, x) :: xs => P k ∧ allT P x ∧ allM P xs
end
theorem allL_mem {P : ByteArray → Prop} : ∀ {xs : List Nd}, allL P xs → ∀ x ∈ xs, allT P x
  | [], _, x, h => by cases h
  | y :: xs, h, x, hx => by
    rw [allL] at h
    rcases List.mem_cons.1 hx with rfl | hx
    · exact h.1
    · exact allL_mem h.2 x hx
theorem allM_mem {P : ByteArray → Prop} : ∀ {xs : List (ByteArray × Nat × Nd)}, allM P xs → ∀ m ∈ xs, P m.1 ∧ allT P m.2.2
  | [], _, x, h => by cases h
  | (k, p, y) :: xs, h, x, hx => by
    rw [allM] at h
    rcases List.mem_cons.1 hx with rfl | hx
    · exact ⟨h.1, h.2.1⟩
    · exact allM_mem h.2.2 x hx
theorem p_all {s : ByteArray} {ts : List Tk} {P : ByteArray → Prop} (hP : ∀ p, kindT ts p = 5 → P (textT ts p)) : ∀ f,
    (∀ deep p x q, pV s ts f deep p = .ok x q → allT P x) ∧
    (∀ deep p xs q, pI s ts f deep p = .ok xs q → allL P xs) ∧
    (∀ deep seen p xs q, pM s ts f deep seen p = .ok xs q → allM P xs)
  | 0 => ⟨(fun _ _ _ _ h => by rw [pV] at h; cases h), (fun _ _ _ _ h => by rw [pI] at h; cases h), (fun _ _ _ _ _ h => by rw [pM] at h; cases h)⟩
  | f + 1 => by
    obtain ⟨iV, iI, iM⟩ := p_all hP f
    refine ⟨?_, ?_, ?_⟩
    · intro deep p x q h
      rw [pV] at h
      split at h
      · cases h; trivial
      split at h
      · cases h; trivial
      split at h
      · cases h; trivial
      split at h
      · cases h; trivial
      split at h
      · rename_i h5
        cases h; exact hP p h5
      split at h
      · split at h
        · cases h
        · by_cases h9 : kindT ts (p + 1) = 9
          · rw [if_pos h9] at h; cases h; trivial
          · rw [if_neg h9] at h
            cases hI : pI s ts f deep (p + 1) with
            | ok xs r => rw [hI] at h; cases h; exact iI _ _ _ _ hI
            | err k pl => rw [hI] at h; cases h
            | out => rw [hI] at h; cases h
      split at h
      · split at h
        · cases h
        · by_cases h9 : kindT ts (p + 1) = 7
          · rw [if_pos h9] at h; cases h; trivial
          · rw [if_neg h9] at h
            cases hI : pM s ts f deep [] (p + 1) with
            | ok xs r => rw [hI] at h; cases h; exact iM _ _ _ _ _ hI
            | err k pl => rw [hI] at h; cases h
            | out => rw [hI] at h; cases h
      cases h
    · intro deep p xs q h
      rw [pI] at h
      cases hV : pV s ts f (deep + 1) p with
      | err k pl => rw [hV] at h; cases h
      | out => rw [hV] at h; cases h
      | ok x r =>
        rw [hV] at h
        dsimp only at h
        cases hr : rest s ts 9 r with
        | err k pl => rw [hr] at h; cases h
        | out => rw [hr] at h; cases h
        | ok b r' =>
          rw [hr] at h
          cases b with
          | true => cases h; exact ⟨iV _ _ _ _ hV, trivial⟩
          | false =>
            dsimp only at h
            cases hI : pI s ts f deep r' with
            | ok ys r => rw [hI] at h; cases h; exact ⟨iV _ _ _ _ hV, iI _ _ _ _ hI⟩
            | err k pl => rw [hI] at h; cases h
            | out => rw [hI] at h; cases h
    · intro deep seen p xs q h
      rw [pM] at h
      split at h
      · rename_i h5
        split at h
        · cases h
        · split at h
          · cases hV : pV s ts f (deep + 1) (p + 2) with
            | err k pl => rw [hV] at h; cases h
            | out => rw [hV] at h; cases h
            | ok x r =>
              rw [hV] at h
              dsimp only at h
              cases hr : rest s ts 7 r with
              | err k pl => rw [hr] at h; cases h
              | out => rw [hr] at h; cases h
              | ok b r' =>
                rw [hr] at h
                cases b with
                | true => cases h; exact ⟨hP p h5, iV _ _ _ _ hV, trivial⟩
                | false =>
                  dsimp only at h
                  cases hI : pM s ts f deep (seen ++ [textT ts p]) r' with
                  | ok ys r => rw [hI] at h; cases h; exact ⟨hP p h5, iV _ _ _ _ hV, iM _ _ _ _ _ hI⟩
                  | err k pl => rw [hI] at h; cases h
                  | out => rw [hI] at h; cases h
          · cases h
      · cases h
theorem esc_len : ∀ l : List UInt8, (l.flatMap escB).length ≤ 6 * l.length
  | [] => Nat.le_refl _
  | c :: l => by
    rw [List.flatMap_cons, List.length_append, List.length_cons]
    have := esc_len l
    have := escB_len c
    omega
theorem qN_len (t : ByteArray) : (qN t).length ≤ 6 * t.size + 2 := by
  unfold qN
  split
  · unfold quoteL
    rw [List.length_cons, List.length_append, List.length_singleton]
    have := esc_len t.data.toList
    have h : t.data.toList.length = t.size := by rw [Array.length_toList]; rfl
    omega
  · exact Nat.zero_le _
theorem fmtL_len : ∀ xs : List Nd, (fmtL false xs).length ≤ (fmtL true xs).length + 1
  | [] => by rw [fmtL, fmtL]; simp
  | x :: xs => by rw [fmtL, fmtL]; simp
theorem fmtM_len : ∀ xs : List (ByteArray × Nat × Nd), (fmtM false xs).length ≤ (fmtM true xs).length + 1
  | [] => by rw [fmtM, fmtM]; simp
  | (k, p, x) :: xs => by rw [fmtM, fmtM]; simp
theorem p_len {s : ByteArray} {ts : List Tk} {m M : Nat} (hM : 6 * m + 8 ≤ M) (ht : ∀ p, (textT ts p).size ≤ m) (hw : ∀ p, (wordT s ts p).size ≤ m) : ∀ f,
    (∀ deep p x q, pV s ts f deep p = .ok x q → p * M + (fmtN x).length ≤ q * M) ∧
    (∀ deep p xs q, pI s ts f deep p = .ok xs q → p * M + (fmtL true xs).length + 1 ≤ q * M) ∧
    (∀ deep seen p xs q, pM s ts f deep seen p = .ok xs q → p * M + (fmtM true xs).length + 1 ≤ q * M)
  | 0 => ⟨(fun _ _ _ _ h => by rw [pV] at h; cases h), (fun _ _ _ _ h => by rw [pI] at h; cases h), (fun _ _ _ _ _ h => by rw [pM] at h; cases h)⟩
  | f + 1 => by
    obtain ⟨iV, iI, iM⟩ := p_len hM ht hw f
    have one : ∀ p, (p + 1) * M = p * M + M := fun p => Nat.succ_mul p M
    have two : ∀ p, (p + 2) * M = p * M + M + M := fun p => by rw [show p + 2 = (p + 1) + 1 from rfl, one, one]
    have hl : ∀ t : ByteArray, t.data.toList.length = t.size := fun t => by rw [Array.length_toList]; rfl
    refine ⟨?_, ?_, ?_⟩
    · intro deep p x q h
      rw [pV] at h
      split at h
      · cases h; rw [one, fmtN]; show p * M + 4 ≤ _; omega
      split at h
      · cases h; rw [one, fmtN]; show p * M + 4 ≤ _; omega
      split at h
      · cases h; rw [one, fmtN]; show p * M + 5 ≤ _; omega
      split at h
      · cases h
        rw [one, fmtN, hl]
        have := hw p
        omega
      split at h
      · cases h
        rw [one, fmtN]
        have := ht p
        have := qN_len (textT ts p)
        omega
      split at h
      · split at h
        · cases h
        · by_cases h9 : kindT ts (p + 1) = 9
          · rw [if_pos h9] at h; cases h
            rw [two, fmtN, fmtL]
            show p * M + 2 ≤ _
            omega
          · rw [if_neg h9] at h
            cases hI : pI s ts f deep (p + 1) with
            | ok xs r =>
              rw [hI] at h; cases h
              have := iI _ _ _ _ hI
              rw [one] at this
              rw [fmtN, List.length_cons, List.length_append, List.length_singleton]
              omega
            | err k pl => rw [hI] at h; cases h
            | out => rw [hI] at h; cases h
      split at h
      · split at h
        · cases h
        · by_cases h9 : kindT ts (p + 1) = 7
          · rw [if_pos h9] at h; cases h
            rw [two, fmtN, fmtM]
            show p * M + 2 ≤ _
            omega
          · rw [if_neg h9] at h
            cases hI : pM s ts f deep [] (p + 1) with
            | ok xs r =>
              rw [hI] at h; cases h
              have := iM _ _ _ _ _ hI
              rw [one] at this
              rw [fmtN, List.length_cons, List.length_append, List.length_singleton]
              omega
            | err k pl => rw [hI] at h; cases h
            | out => rw [hI] at h; cases h
      cases h
    · intro deep p xs q h
      rw [pI] at h
      cases hV : pV s ts f (deep + 1) p with
      | err k pl => rw [hV] at h; cases h
      | out => rw [hV] at h; cases h
      | ok x r =>
        rw [hV] at h
        dsimp only at h
        have h1 := iV _ _ _ _ hV
        cases hr : rest s ts 9 r with
        | err k pl => rw [hr] at h; cases h
        | out => rw [hr] at h; cases h
        | ok b r' =>
          have hr' : r' = r + 1 := by
            unfold rest at hr
            split at hr
            · cases hr; rfl
            · split at hr
              · cases hr; rfl
              · cases hr
          subst hr'
          rw [hr] at h
          cases b with
          | true =>
            cases h
            rw [one, fmtL, fmtL]
            simp
            omega
          | false =>
            dsimp only at h
            cases hI : pI s ts f deep (r + 1) with
            | ok ys r =>
              rw [hI] at h; cases h
              have h2 := iI _ _ _ _ hI
              rw [one] at h2
              have h3 := fmtL_len ys
              rw [fmtL]
              simp
              omega
            | err k pl => rw [hI] at h; cases h
            | out => rw [hI] at h; cases h
    · intro deep seen p xs q h
      rw [pM] at h
      have h4 := ht p
      have h5 := qN_len (textT ts p)
      split at h
      · split at h
        · cases h
        · split at h
          · cases hV : pV s ts f (deep + 1) (p + 2) with
            | err k pl => rw [hV] at h; cases h
            | out => rw [hV] at h; cases h
            | ok x r =>
              rw [hV] at h
              dsimp only at h
              have h1 := iV _ _ _ _ hV
              rw [two] at h1
              cases hr : rest s ts 7 r with
              | err k pl => rw [hr] at h; cases h
              | out => rw [hr] at h; cases h
              | ok b r' =>
                have hr' : r' = r + 1 := by
                  unfold rest at hr
                  split at hr
                  · cases hr; rfl
                  · split at hr
                    · cases hr; rfl
                    · cases hr
                subst hr'
                rw [hr] at h
                cases b with
                | true =>
                  cases h
                  rw [one, fmtM, fmtM]
                  simp
                  omega
                | false =>
                  dsimp only at h
                  cases hI : pM s ts f deep (seen ++ [textT ts p]) (r + 1) with
                  | ok ys r =>
                    rw [hI] at h; cases h
                    have h2 := iM _ _ _ _ _ hI
                    rw [one] at h2
                    have h3 := fmtM_len ys
                    rw [fmtM]
                    simp
                    omega
                  | err k pl => rw [hI] at h; cases h
                  | out => rw [hI] at h; cases h
          · cases h
      · cases h
theorem parse_pV {s : ByteArray} {ts : List Tk} {x : Nd} {q : Nat} (h : pP s ts = .ok x q) : pV s ts (2 * ts.length + 1) 0 0 = .ok x q ∧ q = ts.length := by
  have hf := pV_fits s ts
  unfold pP at h
  cases hV : pV s ts (2 * ts.length + 1) 0 0 with
  | err k pl => rw [hV] at h; cases h
  | out => rw [hV] at h; cases h
  | ok y r =>
    rw [hV] at h hf
    dsimp only at h
    split at h
    · cases h
    · cases h
      have := hf.2
      exact ⟨rfl, by omega⟩
theorem textT_le {ts : List Tk} {m : Nat} (h : ∀ T ∈ ts, T.text.size ≤ m) (p : Nat) : (textT ts p).size ≤ m := by
  unfold textT
  cases hT : ts[p]? with
  | none => exact Nat.zero_le _
  | some T => exact h T (List.mem_of_getElem? hT)
theorem wordT_le {s : ByteArray} {ts : List Tk} {m : Nat} (h : s.size ≤ m) (p : Nat) : (wordT s ts p).size ≤ m := by
  unfold wordT
  cases hT : ts[p]? with
  | none => exact Nat.zero_le _
  | some T =>
    show (s.extract T.fr T.to).size ≤ m
    rw [ByteArray.size_extract]
    omega

end Go.Proofs.YtibopkodoidjoaaGreatDoor

/- Package tree: quoted, and format of a node that has no items. -/
namespace Go.Proofs.YtibopkodoidjoaaGreatDoor
open Go Go.RowKit

/-- Blocks below base are as they were, and blocks that hold no bytes. -/
structure FB (base : Nat) (w w' : World) : Prop where
  bel : Below base w w'
  keep : ∀ (k : Nat) (o : Obj), w.heap[k]? = some o → (∀ cs fr, o ≠ .cells cs 5 fr) → w'.heap[k]? = some o
theorem FB.refl (base : Nat) (w : World) : FB base w w := ⟨Below.refl _ _, fun _ _ h _ => h⟩
theorem FB.trans {base : Nat} {a b c : World} (h : FB base a b) (k : FB base b c) : FB base a c := ⟨h.bel.trans k.bel, fun i o hi hn => k.keep i o (h.keep i o hi hn) hn⟩
theorem FB.ofB {base : Nat} {a b : World} (h : Below a.heap.size a b) (hb : base ≤ a.heap.size) : FB base a b := ⟨h.mono hb, fun i _ hi _ => (h.block i (ltB hi)).trans hi⟩
theorem FB.alloc {base : Nat} {a b : World} (h : FB base a b) (hb : base ≤ b.heap.size) (o : Obj) : FB base a (b.alloc o) := h.trans (FB.ofB ((Below.refl _ _).alloc (Nat.le_refl _) _) hb)
theorem FB.row {base : Nat} {a b c : World} {v : Value} {l : List UInt8} (h : FB base a b) (ho : OwnB b base v l) (hg : b.grownBy c v.ownBlock) (hb : base ≤ b.heap.size) : FB base a c := by
  refine h.trans ⟨Below.grown (Below.refl _ _) hg hb (fun k hk => ho.lt k hk), fun k o hk hn => (hg.block k (ltB hk) (fun e => ?_)).trans hk⟩
  obtain ⟨_, ⟨h2, _⟩ | ⟨g, cap, cur, h2, hbg, hg2, _⟩⟩ := ho
  · rw [h2] at e; cases e
  · rw [h2] at e
    cases e
    rw [hk] at hg2
    cases hg2
    exact hn _ _ rfl
theorem FB.size {base : Nat} {a b : World} (h : FB base a b) : a.heap.size ≤ b.heap.size := h.bel.size
/-- What format and quoted answer: the bytes l behind those of before. -/
def OutR (base : Nat) (w : World) (l : List UInt8) (e : Ending) (w' : World) : Prop := ∃ v', e = .returned v' ∧ OwnB w' base v' l ∧ FB base w w'
theorem OwnB.alloc {w : World} {base : Nat} {v : Value} {l : List UInt8} (h : OwnB w base v l) (o : Obj) : OwnB (w.alloc o) base v l := World.ownsRow.alloc h o
set_option maxHeartbeats 1000000 in
set_option maxRecDepth 100000 in
theorem quoted_calls {A : Nat → Addr} {B base : Nat} (t : ByteArray) (v : Value) (l : List UInt8) (w : World) (hE : Env A B SU w) (ho : OwnB w base v l) (hb : base ≤ w.heap.size) (ht : t.size ≤ 3518437208882) (hl : l.length + (qN t).length ≤ 140737488355328) :
    Calls Tryz.prog 70 #[v, .string t] w (fun e w' => OutR base w (l ++ qN t) e w' ∧ w.grownBy w' v.ownBlock) := by
  have C := Lib.hid (fun w hE => Quote_calls (A := A) (B := B) t w hE ht)
  have hqs : (quoteS t).data.toList = quoteL t.data.toList := by unfold quoteS; simp
  replace ho := Lib.hid ho
  by_cases hu : utfE t = 0
  · have hq : qN t = quoteL t.data.toList := by unfold qN; rw [if_pos hu]
    rw [hq] at hl ⊢
    rw [← hqs] at hl ⊢
    replace C : Hid (∀ w, Env A B SU w → Calls Tryz.prog 44 #[.string t] w fun e w' => e = .returned (.tuple #[.string (quoteS t), .nilIface]) ∧ Below w.heap.size w w') := Lib.hid (fun w hE => by
      have := C.out w hE
      rw [if_pos hu] at this
      exact this)
    have hsz : (quoteS t).data.toList.length = (quoteS t).size := by rw [Array.length_toList]; rfl
    rw [hsz] at hl
    generalize quoteS t = q at *
    replace hqs := Lib.hid hqs
    replace hq := Lib.hid hq
    replace hu := Lib.hid hu
    replace hsz := Lib.hid hsz
    go_enter Tryz.func70, Tryz.ntmps70
    (go_wp2_with fail; repeat (any_goals (go_quiet (fail); go_wp2_with fail)))
    refine (C.out _ (hE.next (by repeat (first | assumption | exact Below.refl _ _ | apply Below.drew | apply below_drewN | apply balloc | (refine Below.setCell ?_ (by first | omega | (simp <;> omega)) _))))).mono ?_
    rintro e w1 ⟨rfl, hb1⟩
    have ho1 := ho.out.next (w' := w1) (bcall (by repeat (first | assumption | exact Below.refl _ _ | apply Below.drew | apply below_drewN | apply balloc | (refine Below.setCell ?_ (by first | omega | (simp <;> omega)) _))) hb1)
    have hb2 : Below w.heap.size w w1 := bcall (by repeat (first | assumption | exact Below.refl _ _ | apply Below.drew | apply below_drewN | apply balloc | (refine Below.setCell ?_ (by first | omega | (simp <;> omega)) _))) hb1
    have hz := hb2.size
    go_wp2_with (at_builtin; refine app_str rfl _ _ rfl base v l rfl ho1 q rfl hl (by omega) ?_)
    intro v' w2 ho2 hg
    go_wp2_with fail
    go_ret
    exact ⟨⟨v', rfl, ho2, (FB.ofB hb2 hb).row ho1 hg (by omega)⟩, grown_trans (grown_of_below hb2) hg⟩
  · have hq : qN t = [] := by unfold qN; rw [if_neg hu]
    rw [hq, List.append_nil]
    replace C : Hid (∀ w, Env A B SU w → Calls Tryz.prog 44 #[.string t] w fun e w' => e = .returned (.tuple #[.string ⟨#[]⟩, .iface 237 (.pointer (some (A 1)))]) ∧ Below w.heap.size w w') := Lib.hid (fun w hE => by
      have := C.out w hE
      rw [if_neg hu] at this
      exact this)
    replace hqs := Lib.hid hqs
    replace hq := Lib.hid hq
    replace hu := Lib.hid hu
    go_enter Tryz.func70, Tryz.ntmps70
    (go_wp2_with fail; repeat (any_goals (go_quiet (fail); go_wp2_with fail)))
    refine (C.out _ (hE.next (by repeat (first | assumption | exact Below.refl _ _ | apply Below.drew | apply below_drewN | apply balloc | (refine Below.setCell ?_ (by first | omega | (simp <;> omega)) _))))).mono ?_
    rintro e w1 ⟨rfl, hb1⟩
    have ho1 := ho.out.next (w' := w1) (bcall (by repeat (first | assumption | exact Below.refl _ _ | apply Below.drew | apply below_drewN | apply balloc | (refine Below.setCell ?_ (by first | omega | (simp <;> omega)) _))) hb1)
    have hb2 : Below w.heap.size w w1 := bcall (by repeat (first | assumption | exact Below.refl _ _ | apply Below.drew | apply below_drewN | apply balloc | (refine Below.setCell ?_ (by first | omega | (simp <;> omega)) _))) hb1
    go_wp2_with fail
    go_ret
    exact ⟨⟨v, rfl, ho1, FB.ofB hb2 hb⟩, grown_of_below hb2⟩
theorem litFlag_le (b : Bool) : (litFlag b).length ≤ 5 := by cases b <;> simp [litFlag]
set_option maxHeartbeats 1000000 in
theorem appBool_in {base : Nat} (x : Bool) (v : Value) (l : List UInt8) (w : World) (ho : OwnB w base v l) (hb : base ≤ w.heap.size) (hl : l.length + (litFlag x).length ≤ 140737488355328) :
    Calls Tryz.prog 88 #[v, .bool x] w (OutR base w (l ++ litFlag x)) := by
  cases x
  all_goals
    go_enter Tryz.func88, Tryz.ntmps88
    go_wp2_with (at_builtin; refine app_str rfl _ _ rfl base v l rfl ho _ rfl hl (by omega) ?_)
    intro v' w2 ho2 hg
    go_wp2_with fail
    go_ret
    exact ⟨v', rfl, ho2, (FB.refl _ _).row ho hg hb⟩
set_option maxHeartbeats 1000000 in
theorem appBool_calls {base : Nat} (x : Bool) (v : Value) (l : List UInt8) (w : World) (ho : OwnB w base v l) (hb : base ≤ w.heap.size) (hl : l.length + (litFlag x).length ≤ 140737488355328) :
    Calls Tryz.prog 69 #[v, .bool x] w (OutR base w (l ++ litFlag x)) := by
  have C := Lib.hid (appBool_in x v l w ho hb hl)
  go_enter Tryz.func69, Tryz.ntmps69
  go_wp2_with fail
  refine C.out.mono ?_
  rintro e w1 ⟨v', rfl, ho1, hb1⟩
  go_wp2_with fail
  go_ret
  exact ⟨v', rfl, ho1, hb1⟩

end Go.Proofs.YtibopkodoidjoaaGreatDoor

/- Package tree: format of a list. -/
namespace Go.Proofs.YtibopkodoidjoaaGreatDoor
open Go Go.RowKit

@[go_sem] theorem as_NodeNull_NodeNull (v : Value) (w : World) : (Instr.typeAssert (.iface 90 v) 24 90 true).run Tryz.prog w = .ok (.tuple #[v, .bool true]) w := by kernel_rfl
@[go_sem] theorem as_NodeNull_NodeFlag (v : Value) (w : World) : (Instr.typeAssert (.iface 90 v) 24 92 true).run Tryz.prog w = .ok (.tuple #[.agg #[.int .i64 0, .bool false], .bool false]) w := by kernel_rfl
@[go_sem] theorem as_NodeNull_NodeNumber (v : Value) (w : World) : (Instr.typeAssert (.iface 90 v) 24 94 true).run Tryz.prog w = .ok (.tuple #[.agg #[.int .i64 0, .string ⟨#[]⟩], .bool false]) w := by kernel_rfl
@[go_sem] theorem as_NodeNull_NodeText (v : Value) (w : World) : (Instr.typeAssert (.iface 90 v) 24 95 true).run Tryz.prog w = .ok (.tuple #[.agg #[.int .i64 0, .string ⟨#[]⟩], .bool false]) w := by kernel_rfl
@[go_sem] theorem as_NodeNull_NodeList (v : Value) (w : World) : (Instr.typeAssert (.iface 90 v) 24 98 true).run Tryz.prog w = .ok (.tuple #[.agg #[.int .i64 0, .slice none 0 0], .bool false]) w := by kernel_rfl
@[go_sem] theorem as_NodeNull_NodeObject (v : Value) (w : World) : (Instr.typeAssert (.iface 90 v) 24 101 true).run Tryz.prog w = .ok (.tuple #[.agg #[.int .i64 0, .slice none 0 0], .bool false]) w := by kernel_rfl
@[go_sem] theorem as_NodeFlag_NodeNull (v : Value) (w : World) : (Instr.typeAssert (.iface 92 v) 24 90 true).run Tryz.prog w = .ok (.tuple #[.agg #[.int .i64 0], .bool false]) w := by kernel_rfl
@[go_sem] theorem as_NodeFlag_NodeFlag (v : Value) (w : World) : (Instr.typeAssert (.iface 92 v) 24 92 true).run Tryz.prog w = .ok (.tuple #[v, .bool true]) w := by kernel_rfl
@[go_sem] theorem as_NodeFlag_NodeNumber (v : Value) (w : World) : (Instr.typeAssert (.iface 92 v) 24 94 true).run Tryz.prog w = .ok (.tuple #[.agg #[.int .i64 0, .string ⟨#[]⟩], .bool false]) w := by kernel_rfl
@[go_sem] theorem as_NodeFlag_NodeText (v : Value) (w : World) : (Instr.typeAssert (.iface 92 v) 24 95 true).run Tryz.prog w = .ok (.tuple #[.agg #[.int .i64 0, .string ⟨#[]⟩], .bool false]) w := by kernel_rfl
@[go_sem] theorem as_NodeFlag_NodeList (v : Value) (w : World) : (Instr.typeAssert (.iface 92 v) 24 98 true).run Tryz.prog w = .ok (.tuple #[.agg #[.int .i64 0, .slice none 0 0], .bool false]) w := by kernel_rfl
@[go_sem] theorem as_NodeFlag_NodeObject (v : Value) (w : World) : (Instr.typeAssert (.iface 92 v) 24 101 true).run Tryz.prog w = .ok (.tuple #[.agg #[.int .i64 0, .slice none 0 0], .bool false]) w := by kernel_rfl
@[go_sem] theorem as_NodeNumber_NodeNull (v : Value) (w : World) : (Instr.typeAssert (.iface 94 v) 24 90 true).run Tryz.prog w = .ok (.tuple #[.agg #[.int .i64 0], .bool false]) w := by kernel_rfl
@[go_sem] theorem as_NodeNumber_NodeFlag (v : Value) (w : World) : (Instr.typeAssert (.iface 94 v) 24 92 true).run Tryz.prog w = .ok (.tuple #[.agg #[.int .i64 0, .bool false], .bool false]) w := by kernel_rfl
@[go_sem] theorem as_NodeNumber_NodeNumber (v : Value) (w : World) : (Instr.typeAssert (.iface 94 v) 24 94 true).run Tryz.prog w = .ok (.tuple #[v, .bool true]) w := by kernel_rfl
@[go_sem] theorem as_NodeNumber_NodeText (v : Value) (w : World) : (Instr.typeAssert (.iface 94 v) 24 95 true).run Tryz.prog w = .ok (.tuple #[.agg #[.int .i64 0, .string ⟨#[]⟩], .bool false]) w := by kernel_rfl
@[go_sem] theorem as_NodeNumber_NodeList (v : Value) (w : World) : (Instr.typeAssert (.iface 94 v) 24 98 true).run Tryz.prog w = .ok (.tuple #[.agg #[.int .i64 0, .slice none 0 0], .bool false]) w := by kernel_rfl
@[go_sem] theorem as_NodeNumber_NodeObject (v : Value) (w : World) : (Instr.typeAssert (.iface 94 v) 24 101 true).run Tryz.prog w = .ok (.tuple #[.agg #[.int .i64 0, .slice none 0 0], .bool false]) w := by kernel_rfl
@[go_sem] theorem as_NodeText_NodeNull (v : Value) (w : World) : (Instr.typeAssert (.iface 95 v) 24 90 true).run Tryz.prog w = .ok (.tuple #[.agg #[.int .i64 0], .bool false]) w := by kernel_rfl
@[go_sem] theorem as_NodeText_NodeFlag (v : Value) (w : World) : (Instr.typeAssert (.iface 95 v) 24 92 true).run Tryz.prog w = .ok (.tuple #[.agg #[.int .i64 0, .bool false], .bool false]) w := by kernel_rfl
@[go_sem] theorem as_NodeText_NodeNumber (v : Value) (w : World) : (Instr.typeAssert (.iface 95 v) 24 94 true).run Tryz.prog w = .ok (.tuple #[.agg #[.int .i64 0, .string ⟨#[]⟩], .bool false]) w := by kernel_rfl
@[go_sem] theorem as_NodeText_NodeText (v : Value) (w : World) : (Instr.typeAssert (.iface 95 v) 24 95 true).run Tryz.prog w = .ok (.tuple #[v, .bool true]) w := by kernel_rfl
@[go_sem] theorem as_NodeText_NodeList (v : Value) (w : World) : (Instr.typeAssert (.iface 95 v) 24 98 true).run Tryz.prog w = .ok (.tuple #[.agg #[.int .i64 0, .slice none 0 0], .bool false]) w := by kernel_rfl
@[go_sem] theorem as_NodeText_NodeObject (v : Value) (w : World) : (Instr.typeAssert (.iface 95 v) 24 101 true).run Tryz.prog w = .ok (.tuple #[.agg #[.int .i64 0, .slice none 0 0], .bool false]) w := by kernel_rfl
@[go_sem] theorem as_NodeList_NodeNull (v : Value) (w : World) : (Instr.typeAssert (.iface 98 v) 24 90 true).run Tryz.prog w = .ok (.tuple #[.agg #[.int .i64 0], .bool false]) w := by kernel_rfl
@[go_sem] theorem as_NodeList_NodeFlag (v : Value) (w : World) : (Instr.typeAssert (.iface 98 v) 24 92 true).run Tryz.prog w = .ok (.tuple #[.agg #[.int .i64 0, .bool false], .bool false]) w := by kernel_rfl
@[go_sem] theorem as_NodeList_NodeNumber (v : Value) (w : World) : (Instr.typeAssert (.iface 98 v) 24 94 true).run Tryz.prog w = .ok (.tuple #[.agg #[.int .i64 0, .string ⟨#[]⟩], .bool false]) w := by kernel_rfl
@[go_sem] theorem as_NodeList_NodeText (v : Value) (w : World) : (Instr.typeAssert (.iface 98 v) 24 95 true).run Tryz.prog w = .ok (.tuple #[.agg #[.int .i64 0, .string ⟨#[]⟩], .bool false]) w := by kernel_rfl
@[go_sem] theorem as_NodeList_NodeList (v : Value) (w : World) : (Instr.typeAssert (.iface 98 v) 24 98 true).run Tryz.prog w = .ok (.tuple #[v, .bool true]) w := by kernel_rfl
@[go_sem] theorem as_NodeList_NodeObject (v : Value) (w : World) : (Instr.typeAssert (.iface 98 v) 24 101 true).run Tryz.prog w = .ok (.tuple #[.agg #[.int .i64 0, .slice none 0 0], .bool false]) w := by kernel_rfl
@[go_sem] theorem as_NodeObject_NodeNull (v : Value) (w : World) : (Instr.typeAssert (.iface 101 v) 24 90 true).run Tryz.prog w = .ok (.tuple #[.agg #[.int .i64 0], .bool false]) w := by kernel_rfl
@[go_sem] theorem as_NodeObject_NodeFlag (v : Value) (w : World) : (Instr.typeAssert (.iface 101 v) 24 92 true).run Tryz.prog w = .ok (.tuple #[.agg #[.int .i64 0, .bool false], .bool false]) w := by kernel_rfl
@[go_sem] theorem as_NodeObject_NodeNumber (v : Value) (w : World) : (Instr.typeAssert (.iface 101 v) 24 94 true).run Tryz.prog w = .ok (.tuple #[.agg #[.int .i64 0, .string ⟨#[]⟩], .bool false]) w := by kernel_rfl
@[go_sem] theorem as_NodeObject_NodeText (v : Value) (w : World) : (Instr.typeAssert (.iface 101 v) 24 95 true).run Tryz.prog w = .ok (.tuple #[.agg #[.int .i64 0, .string ⟨#[]⟩], .bool false]) w := by kernel_rfl
@[go_sem] theorem as_NodeObject_NodeList (v : Value) (w : World) : (Instr.typeAssert (.iface 101 v) 24 98 true).run Tryz.prog w = .ok (.tuple #[.agg #[.int .i64 0, .slice none 0 0], .bool false]) w := by kernel_rfl
@[go_sem] theorem as_NodeObject_NodeObject (v : Value) (w : World) : (Instr.typeAssert (.iface 101 v) 24 101 true).run Tryz.prog w = .ok (.tuple #[v, .bool true]) w := by kernel_rfl
/-- The texts are small enough for Quote. -/
def smallT (t : ByteArray) : Prop := t.size ≤ 3518437208882
/-- What is asked of format at a node that lay in world w0. -/
def FmtC (A : Nat → Addr) (B : Nat) (w0 : World) (lo hi : Nat) (u : Value) (x : Nd) : Prop := ∀ w base v l, (∀ k, lo ≤ k → k < hi → w.heap[k]? = w0.heap[k]?) → Env A B SU w → hi ≤ base → base ≤ w.heap.size → B ≤ base → OwnB w base v l →
  l.length + (fmtN x).length ≤ 140737488355328 → allT smallT x → Calls Tryz.prog 39 #[v, u] w (OutR base w (l ++ fmtN x))
theorem sizeL (t : ByteArray) : t.data.toList.length = t.size := by rw [Array.length_toList]; rfl
section
variable {A : Nat → Addr} {B : Nat} {w0 : World}
set_option maxHeartbeats 1000000 in
set_option maxRecDepth 100000 in
theorem fmt_null (lo hi p : Nat)  : FmtC A B w0 lo hi (.iface 90 (.agg #[.int .i64 (p : Int)])) (.null p) := by
  intro w base v l hw hE hh hb hB ho hl hA
  rw [fmtN] at hl ⊢
  replace hw := Lib.hid hw
  replace ho := Lib.hid ho
  go_enter Tryz.func39, Tryz.ntmps39
  go_wp2_with (at_builtin; refine app_str rfl _ _ rfl base v l rfl (ho.out.alloc _) _ rfl hl (by simp; omega) ?_)
  intro v' w2 ho2 hg
  go_wp2_with fail
  go_ret
  exact ⟨v', rfl, ho2, ((FB.refl base w).alloc hb _).row (ho.out.alloc _) hg (by simp; omega)⟩
set_option maxHeartbeats 1000000 in
set_option maxRecDepth 100000 in
theorem fmt_num (lo hi p : Nat) (t : ByteArray) : FmtC A B w0 lo hi (.iface 94 (.agg #[.int .i64 (p : Int), .string t])) (.num p t) := by
  intro w base v l hw hE hh hb hB ho hl hA
  rw [fmtN] at hl ⊢
  replace hw := Lib.hid hw
  replace ho := Lib.hid ho
  go_enter Tryz.func39, Tryz.ntmps39
  go_wp2_with (at_builtin; refine app_str rfl _ _ rfl base v l rfl (ho.out.alloc _) _ rfl (by rw [← sizeL t]; exact hl) (by simp; omega) ?_)
  intro v' w2 ho2 hg
  go_wp2_with fail
  go_ret
  exact ⟨v', rfl, ho2, ((FB.refl base w).alloc hb _).row (ho.out.alloc _) hg (by simp; omega)⟩
set_option maxHeartbeats 1000000 in
set_option maxRecDepth 100000 in
theorem fmt_flag (lo hi p : Nat) (b : Bool) : FmtC A B w0 lo hi (.iface 92 (.agg #[.int .i64 (p : Int), .bool b])) (.flag p b) := by
  intro w base v l hw hE hh hb hB ho hl hA
  rw [fmtN] at hl ⊢
  replace hw := Lib.hid hw
  replace ho := Lib.hid ho
  go_enter Tryz.func39, Tryz.ntmps39
  (go_wp2_with fail; repeat (any_goals (go_quiet (fail); go_wp2_with fail)))
  refine (appBool_calls b v l _ (ho.out.alloc _) (by simp; omega) hl).mono ?_
  rintro e w2 ⟨v', rfl, ho2, hb2⟩
  go_wp2_with fail
  go_ret
  exact ⟨v', rfl, ho2, ((FB.refl _ _).alloc hb _).trans hb2⟩
set_option maxHeartbeats 1000000 in
set_option maxRecDepth 100000 in
theorem fmt_text (lo hi p : Nat) (t : ByteArray) : FmtC A B w0 lo hi (.iface 95 (.agg #[.int .i64 (p : Int), .string t])) (.text p t) := by
  intro w base v l hw hE hh hb hB ho hl hA
  rw [fmtN] at hl ⊢
  replace hw := Lib.hid hw
  replace ho := Lib.hid ho
  go_enter Tryz.func39, Tryz.ntmps39
  (go_wp2_with fail; repeat (any_goals (go_quiet (fail); go_wp2_with fail)))
  refine (quoted_calls t v l _ (hE.next (by repeat (first | assumption | exact Below.refl _ _ | apply Below.drew | apply below_drewN | apply balloc | (refine Below.setCell ?_ (by first | omega | (simp <;> omega)) _)))) (ho.out.alloc _) (by simp; omega) hA hl).mono ?_
  rintro e w2 ⟨⟨v', rfl, ho2, hb2⟩, _⟩
  go_wp2_with fail
  go_ret
  exact ⟨v', rfl, ho2, ((FB.refl _ _).alloc hb _).trans hb2⟩
end
theorem fmtL_app2 : ∀ (xs ys : List Nd) (b : Bool), fmtL b (xs ++ ys) = fmtL b xs ++ fmtL (b && xs.isEmpty) ys
  | [], ys, b => by rw [List.nil_append, fmtL]; simp
  | x :: xs, ys, b => by
    rw [List.cons_append, fmtL, fmtL, fmtL_app2 xs ys false]
    simp
theorem fmtM_app2 : ∀ (xs ys : List (ByteArray × Nat × Nd)) (b : Bool), fmtM b (xs ++ ys) = fmtM b xs ++ fmtM (b && xs.isEmpty) ys
  | [], ys, b => by rw [List.nil_append, fmtM]; simp
  | (k, p, x) :: xs, ys, b => by
    rw [List.cons_append, fmtM, fmtM, fmtM_app2 xs ys false]
    simp
theorem fmtL_take {xs : List Nd} {k : Nat} {x : Nd} (h : xs[k]? = some x) : fmtL true (xs.take (k + 1)) = fmtL true (xs.take k) ++ ((if k = 0 then [] else [44]) ++ fmtN x) := by
  have hk := (List.getElem?_eq_some_iff.1 h)
  obtain ⟨hk, hx⟩ := hk
  rw [List.take_succ_eq_append_getElem hk, hx, fmtL_app]
  congr 2
  by_cases h0 : k = 0
  · subst h0; simp
  · rw [if_neg h0, if_neg]
    simp
    exact ⟨h0, fun e => by rw [e] at hk; simp at hk⟩
theorem fmtM_take {xs : List (ByteArray × Nat × Nd)} {k : Nat} {t : ByteArray} {p : Nat} {x : Nd} (h : xs[k]? = some (t, p, x)) : fmtM true (xs.take (k + 1)) = fmtM true (xs.take k) ++ ((if k = 0 then [] else [44]) ++ (qN t ++ (58 :: fmtN x))) := by
  have hk := (List.getElem?_eq_some_iff.1 h)
  obtain ⟨hk, hx⟩ := hk
  rw [List.take_succ_eq_append_getElem hk, hx, fmtM_app]
  congr 2
  by_cases h0 : k = 0
  · subst h0; simp
  · rw [if_neg h0, if_neg]
    simp
    exact ⟨h0, fun e => by rw [e] at hk; simp at hk⟩
theorem fmtL_pre (xs : List Nd) (k : Nat) : (fmtL true (xs.take k)).length ≤ (fmtL true xs).length := by
  conv => rhs; rw [← List.take_append_drop k xs, fmtL_app2]
  rw [List.length_append]
  omega
theorem fmtM_pre (xs : List (ByteArray × Nat × Nd)) (k : Nat) : (fmtM true (xs.take k)).length ≤ (fmtM true xs).length := by
  conv => rhs; rw [← List.take_append_drop k xs, fmtM_app2]
  rw [List.length_append]
  omega
theorem rowCells {w : World} {base g n cap : Nat} {e : TypeId} {size : Nat} {xs : List Value} (h : w.ownsRow base e size (.slice (some ⟨g, 0, none⟩) n cap) n xs) {j : Nat} {u : Value} (hj : xs[j]? = some u) : w.cell? ⟨g, j, none⟩ = some u := by
  obtain ⟨h1, ⟨h2, _⟩ | ⟨g', cap', cur, h2, hbg, hg, hn, hc, hz, ht⟩⟩ := h
  · cases h2
  · cases h2
    refine cellB hg j ?_
    have hjl : j < xs.length := (List.getElem?_eq_some_iff.1 hj).1
    rw [← ht, List.getElem?_take_of_lt (by omega), Array.getElem?_toList] at hj
    exact hj
theorem rowForm2 {w : World} {base : Nat} {e : TypeId} {size : Nat} {v : Value} {n : Nat} {xs : List Value} (h : w.ownsRow base e size v n xs) : (n = 0 ∧ v = .slice none 0 0) ∨ ∃ g cap, v = .slice (some ⟨g, 0, none⟩) n cap ∧ base ≤ g ∧ g < w.heap.size ∧ n ≤ cap ∧ cap ≤ maxLen := by
  obtain ⟨h1, ⟨rfl, h3⟩ | ⟨g, cap, cur, rfl, hbg, hg, hn, hc, hz, ht⟩⟩ := h
  · exact Or.inl ⟨h3, rfl⟩
  · exact Or.inr ⟨g, cap, rfl, hbg, ltB hg, hn, hc⟩

end Go.Proofs.YtibopkodoidjoaaGreatDoor

/- The reference's tree: what the reader's objects need. -/
namespace Go.Proofs.YtibopkodoidjoaaGreatDoor
open Go Go.RowKit

/-- The three rows of an object's members. -/
structure R3 (base : Nat) (w : World) (vi vk vp : Value) (cs : List RKid) : Prop where
  i : w.ownsRow base 33 7 vi cs.length (cs.flatMap RKid.u)
  k : w.ownsRow base 9 1 vk cs.length (cs.map fun c => .string c.key)
  p : w.ownsRow base 3 1 vp cs.length (cs.map fun c => .int .i64 (c.pl : Int))
theorem R3.nil (base : Nat) (w : World) : R3 base w (.slice none 0 0) (.slice none 0 0) (.slice none 0 0) [] := ⟨World.ownsRow_nil _ _ _ _, World.ownsRow_nil _ _ _ _, World.ownsRow_nil _ _ _ _⟩
theorem R3.grown {base c : Nat} {w w' : World} {vi vk vp : Value} {cs : List RKid} (h : R3 base w vi vk vp cs) (hg : w.grownBy w' (some c)) (hc : c < base) : R3 base w' vi vk vp cs := ⟨row_grown h.i hg hc, row_grown h.k hg hc, row_grown h.p hg hc⟩
theorem R3.below {base : Nat} {w w' : World} {vi vk vp : Value} {cs : List RKid} (h : R3 base w vi vk vp cs) (hb : Below w.heap.size w w') : R3 base w' vi vk vp cs := ⟨row_below h.i hb, row_below h.k hb, row_below h.p hb⟩
theorem R3.base {n0 n1 : Nat} {w : World} {vi vk vp : Value} {cs : List RKid} (h : R3 n0 w vi vk vp cs) (hn : n1 ≤ n0) : R3 n1 w vi vk vp cs := ⟨ownsRow_base h.i hn, ownsRow_base h.k hn, ownsRow_base h.p hn⟩
theorem R3.sl {base : Nat} {w : World} {vi vk vp : Value} {cs : List RKid} (h : R3 base w vi vk vp cs) : isSl vi ∧ isSl vk ∧ isSl vp := ⟨ownsRow_sl h.i, ownsRow_sl h.k, ownsRow_sl h.p⟩
/-- Rows of elements of unlike types lie in unlike blocks. -/
theorem rows_ne {w : World} {n1 n2 s1 s2 m1 m2 : Nat} {e1 e2 : TypeId} {v1 v2 : Value} {xs1 xs2 : List Value} (h1 : w.ownsRow n1 e1 s1 v1 m1 xs1) (h2 : w.ownsRow n2 e2 s2 v2 m2 xs2) (he : e1 ≠ e2) : ∀ k, v1.ownBlock = some k → v2.ownBlock ≠ some k := by
  intro k hk hk2
  obtain ⟨_, h3 | ⟨g, cap, cur, rfl, _, hg, _⟩⟩ := h1
  · rw [h3.1] at hk; cases hk
  obtain ⟨_, h4 | ⟨g2, cap2, cur2, rfl, _, hg2, _⟩⟩ := h2
  · rw [h4.1] at hk2; cases hk2
  cases hk
  cases hk2
  rw [hg] at hg2
  simp only [Option.some.injEq, Obj.cells.injEq] at hg2
  exact he hg2.2.1
/-- A world behind another: only these blocks have turned. -/
structure GB (w w' : World) (S : List (Option Nat)) : Prop where
  os : w'.os = w.os
  tape : w'.tape = w.tape
  output : w'.output = w.output
  size : w.heap.size ≤ w'.heap.size
  block : ∀ k, k < w.heap.size → (∀ o ∈ S, o ≠ some k) → w'.heap[k]? = w.heap[k]?
theorem GB.of {w w' : World} {S : List (Option Nat)} (hb : Below w.heap.size w w') : GB w w' S := ⟨hb.os, hb.tape, hb.output, hb.size, fun k h _ => hb.block k h⟩
theorem GB.app {w w' w'' : World} {S : List (Option Nat)} {o : Option Nat} (h : GB w w' S) (hg : w'.grownBy w'' o) (ho : o ∈ S) : GB w w'' S :=
  ⟨hg.os.trans h.os, hg.tape.trans h.tape, hg.output.trans h.output, Nat.le_trans h.size hg.size, fun k hk hS => (hg.block k (Nat.lt_of_lt_of_le hk h.size) (fun e => hS o ho e.symm)).trans (h.block k hk hS)⟩
theorem GB.al {w w' : World} {S : List (Option Nat)} (h : GB w w' S) (o : Obj) : GB w (w'.alloc o) S :=
  ⟨h.os, h.tape, h.output, by have := h.size; simp; omega, fun k hk hS => by
    have h1 := (Below.refl w'.heap.size w').alloc (Nat.le_refl _) o
    exact (h1.block k (Nat.lt_of_lt_of_le hk h.size)).trans (h.block k hk hS)⟩
theorem GB.grown {w w' : World} {S : List (Option Nat)} {b : Nat} {a : World} (h : GB w w' S) (k : a.grownBy w (some b)) (hS : ∀ j, some j ∈ S → a.heap.size ≤ j) : a.grownBy w' (some b) :=
  ⟨h.os.trans k.os, h.tape.trans k.tape, h.output.trans k.output, Nat.le_trans k.size h.size, fun i hi hr => (h.block i (Nat.lt_of_lt_of_le hi k.size) (fun o ho e => by subst e; have := hS i ho; omega)).trans (k.block i hi hr)⟩
theorem GB.keep {w w' : World} {S : List (Option Nat)} {g : Nat} {o : Obj} (h : GB w w' S) (hg : w.heap[g]? = some o) (hS : ∀ j, some j ∈ S → g ≠ j) : w'.heap[g]? = some o :=
  (h.block g (ltB hg) (fun o ho e => by subst e; exact hS g ho rfl)).trans hg
theorem RKids.gb {n0 n : Nat} {w w' : World} {oi ok op oi' ok' op' : Option Nat} {cs : List RKid} (h : RKids n0 w [oi, ok, op] cs) (hg : GB w w' [some n, ok, op, oi]) (hn : n < n0)
    (h1 : oi' = oi ∨ ∃ g, oi' = some g ∧ w.heap.size ≤ g) (h2 : ok' = ok ∨ ∃ g, ok' = some g ∧ w.heap.size ≤ g) (h3 : op' = op ∨ ∃ g, op' = some g ∧ w.heap.size ≤ g) : RKids n0 w' [oi', ok', op'] cs := by
  refine ⟨fun c hm => (h.fit c hm).wide (Nat.le_refl _) hg.size, fun c hm o' ho' k hk => ?_, fun c hm => (h.kid c hm).keep fun k k1 k2 => hg.block k (Nat.lt_of_lt_of_le k2 (h.fit c hm).2.2) fun o ho e => ?_⟩
  · have hnew : ∀ (o o' : Option Nat), (o' = o ∨ ∃ g, o' = some g ∧ w.heap.size ≤ g) → o ∈ [oi, ok, op] → o' = some k → k < c.l ∨ c.h ≤ k := by
      intro o o' hh ho e
      rcases hh with rfl | ⟨g, rfl, hg2⟩
      · exact h.off c hm o' ho k e
      · cases e
        exact Or.inr (Nat.le_trans (h.fit c hm).2.2 hg2)
    simp only [List.mem_cons, List.not_mem_nil, or_false] at ho'
    rcases ho' with rfl | rfl | rfl
    · exact hnew _ _ h1 (by simp) hk
    · exact hnew _ _ h2 (by simp) hk
    · exact hnew _ _ h3 (by simp) hk
  · have hoff : ∀ o ∈ [oi, ok, op], o = some k → False := fun o ho e => by have := h.off c hm o ho k e; omega
    simp only [List.mem_cons, List.not_mem_nil, or_false] at ho
    rcases ho with rfl | rfl | rfl | rfl
    · cases e; have := (h.fit c hm).1; omega
    · exact hoff _ (by simp) e
    · exact hoff _ (by simp) e
    · exact hoff _ (by simp) e
theorem al_keep {W : World} {g : Nat} {o o' : Obj} (h : W.heap[g]? = some o) : (W.alloc o').heap[g]? = some o := (((Below.refl W.heap.size W).alloc (Nat.le_refl _) o').block g (ltB h)).trans h
theorem gr_keep {W w1 : World} {g : Nat} {o : Obj} {b : Option Nat} (hg : W.grownBy w1 b) (h : W.heap[g]? = some o) (hne : b ≠ some g) : w1.heap[g]? = some o := (hg.block g (ltB h) (fun e => hne e.symm)).trans h
theorem gr_row {W w1 : World} {n0 n size : Nat} {e : TypeId} {v : Value} {xs : List Value} {b : Option Nat} (hg : W.grownBy w1 b) (h : W.ownsRow n0 e size v n xs) (hne : ∀ k, v.ownBlock = some k → b ≠ some k) : w1.ownsRow n0 e size v n xs :=
  ownsRow_heap h fun k hk => hg.block k (h.lt k hk).2 (fun e => hne k hk e.symm)
section
variable {ops : Array Oper} {o : Oper} {a : Act} {Q : Exit → Act → World → Prop} {w : World} {K : Act → World → Prop} {E : Prop}
/-- append(row, one), in a region that draws. -/
theorem step_app_row (hgd : o.guard = none) (sl x : Operand) (t e : TypeId) (size bytes : Nat) (z : Value) (hi : (Tryz.prog.info? e).map (fun i => (i.zero, i.size, i.bytes)) = some (some z, size, bytes)) (hz : z.cells.size = size) (hsz : 0 < size) (hby : bytes ≤ 112)
    (ht : Tryz.prog.underlying t = some (.slice e)) (ho : o.op = .call { callee := .builtin .append, args := #[sl, x], argTypes := #[t, t] }) (n0 : Nat) (v : Value) (n : Nat) (xs : List Value) (hs : a.eval sl = v) (hK : w.ownsRow n0 e size v n xs)
    (g cp : Nat) (ys : List Value) (cur : Array Value) (t' : TypeId) (hx : a.eval x = .slice (some ⟨g, 0, none⟩) 1 cp) (hg : w.heap[g]? = some (.cells cur t' (0, 0))) (hcur : cur = ys.toArray) (hys : ys.length = size)
    (hlen : n + 1 ≤ 2097152) (hn : n0 ≤ w.heap.size) (h1 : ∀ u ∈ ys, u.oneCell' = true)
    (h : ∀ v' w', w'.ownsRow n0 e size v' (n + 1) (xs ++ ys) → w.grownBy w' v.ownBlock → (v'.ownBlock = v.ownBlock ∨ ∃ g, v'.ownBlock = some g ∧ w.heap.size ≤ g) → isSl v' → K (a.put o.dst v') w') : if Region.wanted o (yielded ops a.tmps) = true then Oper.wp Tryz.prog o a w K Q else E := by
  obtain ⟨i0, hi, hi2⟩ := Option.map_eq_some_iff.1 hi
  simp only [Prod.mk.injEq] at hi2
  refine step_append_lies w hgd sl x t ho n0 e i0 z size bytes ht hi hi2.1 hi2.2.1 hi2.2.2 hz hsz v n xs hs hK ⟨g, 0, none⟩ 1 cp ys hx (by rw [hys]; omega) ?_ h1 (by decide) (by unfold maxLen; omega) ?_ hn w.heap.size rfl ?_
  · intro j u hj
    have : (⟨g, 0, none⟩ : Addr).add j = ⟨g, j, none⟩ := by simp only [Addr.add, Nat.zero_add]; split <;> simp_all
    rw [this]
    refine cellB hg j ?_
    rw [hcur, List.getElem?_toArray]
    exact hj
  · have := Nat.mul_le_mul hlen hby
    omega
  · intro g2 cap w' ho2 hg2 hv _
    refine h _ w' ho2 hg2 ?_ ⟨_, _, _, rfl⟩
    rcases hv with hv | hv
    · exact Or.inl hv.symm
    · exact Or.inr ⟨g2, rfl, by omega⟩
end
/-- What members answers. -/
def PostRM (s : ByteArray) (v : Value) (n pl0 P b : Nat) (w : World) (r : PR (List (ByteArray × Nat × Nd))) (e : Ending) (w' : World) : Prop :=
  w.grownBy w' (some b) ∧ ∃ vi vk vp, e = .returned (.agg #[.int .i64 5, .int .i64 (P : Int), .bool false, .string ⟨#[]⟩, vi, vk, vp]) ∧ match r with
    | .ok xs q => ∃ cs : List RKid, R3 w.heap.size w' vi vk vp cs ∧ RKids w.heap.size w' [vi.ownBlock, vk.ownBlock, vp.ownBlock] cs ∧ cs.map RKid.mem = xs ∧ RdB s v q pl0 0 b w'
    | .err k pl => (isSl vi ∧ isSl vk ∧ isSl vp) ∧ ∃ q, q ≤ n ∧ RdB s v q pl k b w'
    | .out => True
theorem text_eq {s t : ByteArray} (h : s.data.toList = t.data.toList) : s = t := by
  apply ByteArray.ext
  exact Array.toList_inj.1 h
theorem text_ne {s t : ByteArray} (h : s ≠ t) : (s.toList == t.toList) = false := by
  rw [toL, toL]
  simp
  intro h2
  exact h (text_eq (by simpa using h2))
/-- fail, whatever the fault. -/
theorem rfail_u (s : ByteArray) (v : Value) (p pl k b q kk : Nat) (w : World) (hr : RdB s v p pl k b w) :
    Calls Tryz.prog 35 #[.pointer (some ⟨b, 0, none⟩), .int .i64 (q : Int), .int .i64 (kk : Int)] w fun e w' => e = .returned (.tuple #[]) ∧ w.grownBy w' (some b) ∧
      ∃ pl' k', RdB s v p pl' k' b w' ∧ ((k ≠ 0 ∧ pl' = pl ∧ k' = k) ∨ (k = 0 ∧ pl' = q ∧ k' = kk)) := by
  by_cases h0 : k = 0
  · subst h0
    refine (rfail_new s v p pl b q kk w hr).mono ?_
    rintro e w' ⟨rfl, h1, h2⟩
    exact ⟨rfl, h2, _, _, h1, Or.inr ⟨rfl, rfl, rfl⟩⟩
  · refine (rfail_old s v p pl b q kk k w hr h0).mono ?_
    rintro e w' ⟨rfl, hb⟩
    exact ⟨rfl, grown_of_below hb, _, _, hr.next hb, Or.inl ⟨h0, rfl, rfl⟩⟩
theorem knows_iff (l : List ByteArray) (t : ByteArray) : knows l t = true ↔ t ∈ l := by
  unfold knows
  rw [List.any_eq_true]
  constructor
  · rintro ⟨u, hu, h⟩
    have := of_decide_eq_true h
    subst this
    exact hu
  · intro h
    exact ⟨t, h, decide_eq_true rfl⟩

theorem infoS18 : (Tryz.prog.info? 9).map (fun i => (i.zero, i.size, i.bytes)) = some (some (.string ⟨#[]⟩), 1, 16) := by kernel_rfl
theorem infoI18 : (Tryz.prog.info? 3).map (fun i => (i.zero, i.size, i.bytes)) = some (some (.int .i64 0), 1, 8) := by kernel_rfl
theorem tf {b : Bool} {p : Prop} (h : b = true) : b = false → p := fun h2 => by rw [h] at h2; cases h2
theorem own_tr {o o' : Option Nat} {a b : Nat} (h : o' = o ∨ ∃ g, o' = some g ∧ a ≤ g) (hb : b ≤ a) : o' = o ∨ ∃ g, o' = some g ∧ b ≤ g := by
  rcases h with h | ⟨g, h1, h2⟩
  · exact Or.inl h
  · exact Or.inr ⟨g, h1, Nat.le_trans hb h2⟩
theorem drewR {w : World} {n0 n size : Nat} {e : TypeId} {v : Value} {xs : List Value} (h : w.ownsRow n0 e size v n xs) : w.drew.ownsRow n0 e size v n xs := ownsRow_heap h fun _ _ => rfl
/-- The three rows with one more member. -/
structure A3 (base : Nat) (w : World) (vi vk vp : Value) (m : Nat) (cs : List RKid) (key : ByteArray) (P : Nat) (u : List Value) : Prop where
  i : w.ownsRow base 33 7 vi (m + 1) (cs.flatMap RKid.u ++ u)
  k : w.ownsRow base 9 1 vk (m + 1) ((cs.map fun c => .string c.key) ++ [.string key])
  p : w.ownsRow base 3 1 vp (m + 1) ((cs.map fun c => .int .i64 (c.pl : Int)) ++ [.int .i64 (P : Int)])
theorem A3.r3 {base : Nat} {w : World} {vi vk vp : Value} {m : Nat} {cs : List RKid} {c : RKid} (h : A3 base w vi vk vp m cs c.key c.pl c.u) (hm : m = cs.length) : R3 base w vi vk vp (cs ++ [c]) := by
  refine ⟨?_, ?_, ?_⟩
  · rw [List.length_append, List.flatMap_append, List.flatMap_cons, List.flatMap_nil, List.append_nil, ← hm]; exact h.i
  · rw [List.length_append, List.map_append, ← hm]; exact h.k
  · rw [List.length_append, List.map_append, ← hm]; exact h.p
theorem A3.sl {base : Nat} {w : World} {vi vk vp : Value} {m : Nat} {cs : List RKid} {key : ByteArray} {P : Nat} {u : List Value} (h : A3 base w vi vk vp m cs key P u) : isSl vi ∧ isSl vk ∧ isSl vp := ⟨ownsRow_sl h.i, ownsRow_sl h.k, ownsRow_sl h.p⟩
theorem ne_hi {o : Option Nat} {lo hi g : Nat} (h : ∀ k, o = some k → lo ≤ k ∧ k < hi) (hg : hi ≤ g) : o ≠ some g := fun e => Nat.lt_irrefl _ (Nat.lt_of_lt_of_le (h g e).2 hg)
theorem ne_lo {o : Option Nat} {lo hi g : Nat} (h : ∀ k, o = some k → lo ≤ k ∧ k < hi) (hg : g < lo) : o ≠ some g := fun e => Nat.lt_irrefl _ (Nat.lt_of_lt_of_le hg (h g e).1)

end Go.Proofs.YtibopkodoidjoaaGreatDoor

/- The statements of chapter 18: At of a node. -/
namespace Go.Proofs.YtibopkodoidjoaaGreatDoor
open Go Go.RowKit

@[go_sem] theorem na_AtNodeNull (d : Nat) (w : World) (p : Int) : (nilAhead (d + 3) 90 (.agg #[.int .i64 p]) "At").run Tryz.prog w = .ok (some false) w := by kernel_rfl
@[go_sem] theorem me_AtNodeNull (d : Nat) (w : World) (p : Int) : (method (d + 3) 90 (.agg #[.int .i64 p]) "At").run Tryz.prog w = .ok (174, .agg #[.int .i64 p]) w := by kernel_rfl
@[go_sem] theorem na_AtNodeFlag (d : Nat) (w : World) (p : Int) (b : Bool) : (nilAhead (d + 3) 92 (.agg #[.int .i64 p, .bool b]) "At").run Tryz.prog w = .ok (some false) w := by kernel_rfl
@[go_sem] theorem me_AtNodeFlag (d : Nat) (w : World) (p : Int) (b : Bool) : (method (d + 3) 92 (.agg #[.int .i64 p, .bool b]) "At").run Tryz.prog w = .ok (174, .agg #[.int .i64 p]) w := by kernel_rfl
@[go_sem] theorem na_AtNodeNumber (d : Nat) (w : World) (p : Int) (t : ByteArray) : (nilAhead (d + 3) 94 (.agg #[.int .i64 p, .string t]) "At").run Tryz.prog w = .ok (some false) w := by kernel_rfl
@[go_sem] theorem me_AtNodeNumber (d : Nat) (w : World) (p : Int) (t : ByteArray) : (method (d + 3) 94 (.agg #[.int .i64 p, .string t]) "At").run Tryz.prog w = .ok (174, .agg #[.int .i64 p]) w := by kernel_rfl
@[go_sem] theorem na_AtNodeText (d : Nat) (w : World) (p : Int) (t : ByteArray) : (nilAhead (d + 3) 95 (.agg #[.int .i64 p, .string t]) "At").run Tryz.prog w = .ok (some false) w := by kernel_rfl
@[go_sem] theorem me_AtNodeText (d : Nat) (w : World) (p : Int) (t : ByteArray) : (method (d + 3) 95 (.agg #[.int .i64 p, .string t]) "At").run Tryz.prog w = .ok (174, .agg #[.int .i64 p]) w := by kernel_rfl
@[go_sem] theorem na_AtNodeList (d : Nat) (w : World) (p : Int) (a : Option Addr) (n c : Nat) : (nilAhead (d + 3) 98 (.agg #[.int .i64 p, .slice a n c]) "At").run Tryz.prog w = .ok (some false) w := by kernel_rfl
@[go_sem] theorem me_AtNodeList (d : Nat) (w : World) (p : Int) (a : Option Addr) (n c : Nat) : (method (d + 3) 98 (.agg #[.int .i64 p, .slice a n c]) "At").run Tryz.prog w = .ok (174, .agg #[.int .i64 p]) w := by kernel_rfl
@[go_sem] theorem na_AtNodeObject (d : Nat) (w : World) (p : Int) (a : Option Addr) (n c : Nat) : (nilAhead (d + 3) 101 (.agg #[.int .i64 p, .slice a n c]) "At").run Tryz.prog w = .ok (some false) w := by kernel_rfl
@[go_sem] theorem me_AtNodeObject (d : Nat) (w : World) (p : Int) (a : Option Addr) (n c : Nat) : (method (d + 3) 101 (.agg #[.int .i64 p, .slice a n c]) "At").run Tryz.prog w = .ok (174, .agg #[.int .i64 p]) w := by kernel_rfl
set_option maxHeartbeats 1000000 in
theorem At_calls (p : Int) (w : World) : Calls Tryz.prog 174 #[.agg #[.int .i64 p]] w fun e w' => e = .returned (.int .i64 p) ∧ Below w.heap.size w w' := by
  go_enter Tryz.func174, Tryz.ntmps174
  (go_wp2_with fail; repeat (any_goals (go_quiet (fail); go_wp2_with fail)))
  go_ret
  exact ⟨rfl, (by repeat (first | assumption | exact Below.refl _ _ | apply Below.drew | apply below_drewN | apply balloc | (refine Below.setCell ?_ (by first | omega | (simp <;> omega)) _)))⟩
theorem eq_i (d : Nat) (a b : Int) (w : World) : (Op.equalIn (d + 1) 3 (.int .i64 a) (.int .i64 b)).run Tryz.prog w = .ok (a == b) w := run_equalIn_int _ _ _ _ .i64 _ _ (by kernel_rfl)
theorem und6 (w : World) : (underlying 44).run Tryz.prog w = .ok (.array 6 3) w := by kernel_rfl
theorem sz6 (w : World) : (Go.sizeOf 3).run Tryz.prog w = .ok 1 w := by kernel_rfl
theorem eq6 (n : Nat) (a b c d e f : Int) (w : World) : (Op.equalIn (n + 2) 44 (.agg #[.int .i64 a, .int .i64 b, .int .i64 c, .int .i64 d, .int .i64 e, .int .i64 f]) (.agg #[.int .i64 a, .int .i64 b, .int .i64 c, .int .i64 d, .int .i64 e, .int .i64 f])).run Tryz.prog w = .ok true w := by
  rw [Op.equalIn.eq_def]
  simp only [Sem.run_bind, und6, sz6, Result.andThen, part]
  simp [go_sem, eq_i, List.range', Result.andThen]

end Go.Proofs.YtibopkodoidjoaaGreatDoor

/- The statements of chapter 18: is, plain nodes. -/
namespace Go.Proofs.YtibopkodoidjoaaGreatDoor
open Go Go.RowKit

def BoxR (g : Nat) (u : Array Value) (w : World) : Prop := w.heap[g]? = some (.cells u 33 (0, 0))
theorem BoxR.two {g : Nat} {P : Int} {a0 a2 a3 a4 a5 a6 : Value} {w : World} (h : BoxR g #[a0, .int .i64 P, a2, a3, a4, a5, a6] w) : w.cell? ⟨g, 1, none⟩ = some (.int .i64 P) ∧ BoxR g #[a0, .int .i64 P, a2, a3, a4, a5, a6] w := ⟨cellB h 1 rfl, h⟩
theorem BoxR.all {g : Nat} {a0 a1 a2 a3 a4 a5 a6 : Value} {w : World} (h : BoxR g #[a0, a1, a2, a3, a4, a5, a6] w) : w.cell? ⟨g, 0, none⟩ = some a0 ∧ w.cell? ⟨g, 2, none⟩ = some a2 ∧ w.cell? ⟨g, 3, none⟩ = some a3 ∧ w.cell? ⟨g, 4, none⟩ = some a4 ∧ w.cell? ⟨g, 5, none⟩ = some a5 ∧ w.cell? ⟨g, 6, none⟩ = some a6 :=
  ⟨cellB h 0 rfl, cellB h 2 rfl, cellB h 3 rfl, cellB h 4 rfl, cellB h 5 rfl, cellB h 6 rfl⟩
theorem BoxR.drew {g : Nat} {u : Array Value} {w : World} (h : BoxR g u w) : BoxR g u w.drew := h
theorem BoxR.next {g : Nat} {u : Array Value} {w w' : World} (h : BoxR g u w) (hb : Below w.heap.size w w') : BoxR g u w' := box_next h hb
set_option maxHeartbeats 2000000 in
set_option maxRecDepth 100000 in
theorem is_null (P : Nat) (w : World) : Calls Tryz.prog 12 #[.iface 90 (.agg #[.int .i64 (P : Int)]), .agg #[.int .i64 0, .int .i64 (P : Int), .bool false, .string ⟨#[]⟩, .slice none 0 0, .slice none 0 0, .slice none 0 0]] w fun e w' => e = .returned (.bool true) ∧ Below w.heap.size w w' := by
  have T1 := Lib.hid (fun w => At_calls (P : Int) w)
  go_enter Tryz.func12, Tryz.ntmps12
  go_upto_region 1 with fail
  have hB0 : BoxR w.heap.size #[.int .i64 0, .int .i64 (P : Int), .bool false, .string ⟨#[]⟩, .slice none 0 0, .slice none 0 0, .slice none 0 0] (w.alloc (.cells #[.int .i64 0, .int .i64 (P : Int), .bool false, .string ⟨#[]⟩, .slice none 0 0, .slice none 0 0, .slice none 0 0] 33 (0, 0))) := heap_alloc_new _ _
  go_region_held3 (fun w' => w'.cell? ⟨w.heap.size, 1, none⟩ = some (.int .i64 (P : Int)) ∧ BoxR w.heap.size #[.int .i64 0, .int .i64 (P : Int), .bool false, .string ⟨#[]⟩, .slice none 0 0, .slice none 0 0, .slice none 0 0] w') (first | exact BoxR.two ‹_› | exact BoxR.two (BoxR.drew hB0)) ((go_at_call 174; refine (T1.out _).mono ?_; rintro e w8 ⟨rfl, hb⟩; have hB8 := BoxR.next (BoxR.drew hB0) hb; have hb8 : Below w.heap.size w w8 := bcall (by repeat (first | assumption | exact Below.refl _ _ | apply Below.drew | apply below_drewN | apply balloc | (refine Below.setCell ?_ (by first | omega | (simp <;> omega)) _))) hb; clear hb))
  obtain ⟨c0, c2, c3, c4, c5, c6⟩ := hB8.all
  have hlt8 := ltB hB8
  (go_wp2_with fail; repeat (any_goals (go_quiet (fail); go_wp2_with fail)))

  go_ret
  exact ⟨rfl, (by repeat (first | assumption | exact Below.refl _ _ | apply Below.drew | apply below_drewN | apply balloc | (refine Below.setCell ?_ (by first | omega | (simp <;> omega)) _)))⟩
set_option maxHeartbeats 2000000 in
set_option maxRecDepth 100000 in
theorem is_flag (P : Nat) (b : Bool) (w : World) : Calls Tryz.prog 12 #[.iface 92 (.agg #[.int .i64 (P : Int), .bool b]), .agg #[.int .i64 1, .int .i64 (P : Int), .bool b, .string ⟨#[]⟩, .slice none 0 0, .slice none 0 0, .slice none 0 0]] w fun e w' => e = .returned (.bool true) ∧ Below w.heap.size w w' := by
  have T1 := Lib.hid (fun w => At_calls (P : Int) w)
  go_enter Tryz.func12, Tryz.ntmps12
  go_upto_region 1 with fail
  have hB0 : BoxR w.heap.size #[.int .i64 1, .int .i64 (P : Int), .bool b, .string ⟨#[]⟩, .slice none 0 0, .slice none 0 0, .slice none 0 0] (w.alloc (.cells #[.int .i64 1, .int .i64 (P : Int), .bool b, .string ⟨#[]⟩, .slice none 0 0, .slice none 0 0, .slice none 0 0] 33 (0, 0))) := heap_alloc_new _ _
  go_region_held3 (fun w' => w'.cell? ⟨w.heap.size, 1, none⟩ = some (.int .i64 (P : Int)) ∧ BoxR w.heap.size #[.int .i64 1, .int .i64 (P : Int), .bool b, .string ⟨#[]⟩, .slice none 0 0, .slice none 0 0, .slice none 0 0] w') (first | exact BoxR.two ‹_› | exact BoxR.two (BoxR.drew hB0)) ((go_at_call 174; refine (T1.out _).mono ?_; rintro e w8 ⟨rfl, hb⟩; have hB8 := BoxR.next (BoxR.drew hB0) hb; have hb8 : Below w.heap.size w w8 := bcall (by repeat (first | assumption | exact Below.refl _ _ | apply Below.drew | apply below_drewN | apply balloc | (refine Below.setCell ?_ (by first | omega | (simp <;> omega)) _))) hb; clear hb))
  obtain ⟨c0, c2, c3, c4, c5, c6⟩ := hB8.all
  have hlt8 := ltB hB8
  (go_wp2_with fail; repeat (any_goals (go_quiet (fail); go_wp2_with fail)))

  go_ret
  exact ⟨rfl, (by repeat (first | assumption | exact Below.refl _ _ | apply Below.drew | apply below_drewN | apply balloc | (refine Below.setCell ?_ (by first | omega | (simp <;> omega)) _)))⟩
set_option maxHeartbeats 2000000 in
set_option maxRecDepth 100000 in
theorem is_num (P : Nat) (t : ByteArray) (w : World) : Calls Tryz.prog 12 #[.iface 94 (.agg #[.int .i64 (P : Int), .string t]), .agg #[.int .i64 2, .int .i64 (P : Int), .bool false, .string t, .slice none 0 0, .slice none 0 0, .slice none 0 0]] w fun e w' => e = .returned (.bool true) ∧ Below w.heap.size w w' := by
  have T1 := Lib.hid (fun w => At_calls (P : Int) w)
  go_enter Tryz.func12, Tryz.ntmps12
  go_upto_region 1 with fail
  have hB0 : BoxR w.heap.size #[.int .i64 2, .int .i64 (P : Int), .bool false, .string t, .slice none 0 0, .slice none 0 0, .slice none 0 0] (w.alloc (.cells #[.int .i64 2, .int .i64 (P : Int), .bool false, .string t, .slice none 0 0, .slice none 0 0, .slice none 0 0] 33 (0, 0))) := heap_alloc_new _ _
  go_region_held3 (fun w' => w'.cell? ⟨w.heap.size, 1, none⟩ = some (.int .i64 (P : Int)) ∧ BoxR w.heap.size #[.int .i64 2, .int .i64 (P : Int), .bool false, .string t, .slice none 0 0, .slice none 0 0, .slice none 0 0] w') (first | exact BoxR.two ‹_› | exact BoxR.two (BoxR.drew hB0)) ((go_at_call 174; refine (T1.out _).mono ?_; rintro e w8 ⟨rfl, hb⟩; have hB8 := BoxR.next (BoxR.drew hB0) hb; have hb8 : Below w.heap.size w w8 := bcall (by repeat (first | assumption | exact Below.refl _ _ | apply Below.drew | apply below_drewN | apply balloc | (refine Below.setCell ?_ (by first | omega | (simp <;> omega)) _))) hb; clear hb))
  obtain ⟨c0, c2, c3, c4, c5, c6⟩ := hB8.all
  have hlt8 := ltB hB8
  (go_wp2_with fail; repeat (any_goals (go_quiet (fail); go_wp2_with fail)))

  go_ret
  exact ⟨rfl, (by repeat (first | assumption | exact Below.refl _ _ | apply Below.drew | apply below_drewN | apply balloc | (refine Below.setCell ?_ (by first | omega | (simp <;> omega)) _)))⟩
set_option maxHeartbeats 2000000 in
set_option maxRecDepth 100000 in
theorem is_text (P : Nat) (t : ByteArray) (w : World) : Calls Tryz.prog 12 #[.iface 95 (.agg #[.int .i64 (P : Int), .string t]), .agg #[.int .i64 3, .int .i64 (P : Int), .bool false, .string t, .slice none 0 0, .slice none 0 0, .slice none 0 0]] w fun e w' => e = .returned (.bool true) ∧ Below w.heap.size w w' := by
  have T1 := Lib.hid (fun w => At_calls (P : Int) w)
  go_enter Tryz.func12, Tryz.ntmps12
  go_upto_region 1 with fail
  have hB0 : BoxR w.heap.size #[.int .i64 3, .int .i64 (P : Int), .bool false, .string t, .slice none 0 0, .slice none 0 0, .slice none 0 0] (w.alloc (.cells #[.int .i64 3, .int .i64 (P : Int), .bool false, .string t, .slice none 0 0, .slice none 0 0, .slice none 0 0] 33 (0, 0))) := heap_alloc_new _ _
  go_region_held3 (fun w' => w'.cell? ⟨w.heap.size, 1, none⟩ = some (.int .i64 (P : Int)) ∧ BoxR w.heap.size #[.int .i64 3, .int .i64 (P : Int), .bool false, .string t, .slice none 0 0, .slice none 0 0, .slice none 0 0] w') (first | exact BoxR.two ‹_› | exact BoxR.two (BoxR.drew hB0)) ((go_at_call 174; refine (T1.out _).mono ?_; rintro e w8 ⟨rfl, hb⟩; have hB8 := BoxR.next (BoxR.drew hB0) hb; have hb8 : Below w.heap.size w w8 := bcall (by repeat (first | assumption | exact Below.refl _ _ | apply Below.drew | apply below_drewN | apply balloc | (refine Below.setCell ?_ (by first | omega | (simp <;> omega)) _))) hb; clear hb))
  obtain ⟨c0, c2, c3, c4, c5, c6⟩ := hB8.all
  have hlt8 := ltB hB8
  (go_wp2_with fail; repeat (any_goals (go_quiet (fail); go_wp2_with fail)))

  go_ret
  exact ⟨rfl, (by repeat (first | assumption | exact Below.refl _ _ | apply Below.drew | apply below_drewN | apply balloc | (refine Below.setCell ?_ (by first | omega | (simp <;> omega)) _)))⟩

end Go.Proofs.YtibopkodoidjoaaGreatDoor

/- The statements of chapter 18: is, lists and objects. -/
namespace Go.Proofs.YtibopkodoidjoaaGreatDoor
open Go Go.RowKit

/-- is, at a node that stands in world w0 as the answered one and as the document's. -/
def IsC (w0 : World) (lo hi lo2 hi2 : Nat) (u : Value) (c : List Value) : Prop := ∀ w, (∀ k, lo ≤ k → k < hi → w.heap[k]? = w0.heap[k]?) → (∀ k, lo2 ≤ k → k < hi2 → w.heap[k]? = w0.heap[k]?) → hi ≤ w.heap.size → hi2 ≤ w.heap.size →
  Calls Tryz.prog 12 #[u, .agg c.toArray] w fun e w' => e = .returned (.bool true) ∧ Below w.heap.size w w'
theorem flat7 : ∀ (cs : List RKid) (j : Nat) (c : RKid) (i : Nat), (∀ c ∈ cs, c.u.length = 7) → cs[j]? = some c → i < 7 → (cs.flatMap RKid.u)[j * 7 + i]? = c.u[i]?
  | [], j, c, i, _, h, _ => by simp at h
  | a :: cs, 0, c, i, hl, h, hi => by
    simp at h
    subst h
    rw [List.flatMap_cons, List.getElem?_append_left (by rw [hl a (by simp)]; omega), Nat.zero_mul, Nat.zero_add]
  | a :: cs, j + 1, c, i, hl, h, hi => by
    rw [List.flatMap_cons, List.getElem?_append_right (by rw [hl a (by simp)]; omega), hl a (by simp), show (j + 1) * 7 + i - 7 = j * 7 + i by omega]
    exact flat7 cs j c i (fun c hc => hl c (by simp [hc])) (by simpa using h) hi
theorem cell_next {w w' : World} {g j : Nat} {v : Value} (h : w.cell? ⟨g, j, none⟩ = some v) (hg : g < w.heap.size) (hb : Below w.heap.size w w') : w'.cell? ⟨g, j, none⟩ = some v := (hb.cell (p := ⟨g, j, none⟩) hg).trans h
set_option maxHeartbeats 4000000 in
set_option maxRecDepth 100000 in
theorem is_lst {w0 : World} (lo hi lo2 hi2 P : Nat) (vr rv : Value) (cs : List Kid) (rcs : List RKid) (hr : w0.ownsRow lo 24 1 vr cs.length (cs.map Kid.u)) (hb0 : ∀ k, vr.ownBlock = some k → k < hi) (hk : ∀ c ∈ cs, lo ≤ c.l ∧ c.h ≤ hi)
    (hr2 : w0.ownsRow lo2 33 7 rv rcs.length (rcs.flatMap RKid.u)) (hb2 : ∀ k, rv.ownBlock = some k → k < hi2) (hk2 : ∀ c ∈ rcs, c.fits lo2 hi2) (hlen : rcs.length = cs.length)
    (hform : ∀ c ∈ cs, ∃ t a, c.u = .iface t a) (hform2 : ∀ c ∈ rcs, ∃ m p f t vi vk vp, c.u = rdC m p f t vi vk vp ∧ isSl vi ∧ isSl vk ∧ isSl vp)
    (ih : ∀ (j : Nat) (c : Kid) (rc : RKid), cs[j]? = some c → rcs[j]? = some rc → IsC w0 c.l c.h rc.l rc.h c.u rc.u) :
    IsC w0 lo hi lo2 hi2 (.iface 98 (.agg #[.int .i64 (P : Int), vr])) (rdC 4 P false noS rv (.slice none 0 0) (.slice none 0 0)) := by
  intro w hw hw2 hh hh2
  obtain ⟨m, hm⟩ : ∃ m, m = cs.length := ⟨_, rfl⟩
  rw [hlen] at hr2
  rw [← hm] at hr hr2 hlen
  have hl7 : ∀ c ∈ rcs, c.u.length = 7 := fun c hc => by
    obtain ⟨_, _, _, _, _, _, _, h, _⟩ := hform2 c hc
    rw [h]; rfl
  obtain ⟨va, vc, rfl⟩ := rowForm hr
  obtain ⟨ra, rc0, rfl⟩ := rowForm hr2
  have hnm : m ≤ maxLen := by
    rcases rowForm2 hr with ⟨h, _⟩ | ⟨g, cap, h, _, _, h1, h2⟩
    · omega
    · omega
  unfold maxLen at hnm
  have hnI : (m : Int) ≤ 9223372036854775807 := by omega
  have hr1 := Lib.hid (ownsRow_heap hr fun k e => hw k (hr.lt k e).1 (hb0 k e))
  have hr3 := Lib.hid (ownsRow_heap hr2 fun k e => hw2 k (hr2.lt k e).1 (hb2 k e))
  replace hr := Lib.hid hr
  replace hr2 := Lib.hid hr2
  replace hm := Lib.hid hm
  replace hlen := Lib.hid hlen
  replace hw := Lib.hid hw
  replace hw2 := Lib.hid hw2
  rw [rdC_arr]
  have T1 := Lib.hid (fun w => At_calls (P : Int) w)
  go_enter Tryz.func12, Tryz.ntmps12
  go_upto_region 1 with fail
  have hB0 : BoxR w.heap.size #[.int .i64 4, .int .i64 (P : Int), .bool false, .string noS, .slice ra m rc0, .slice none 0 0, .slice none 0 0] (w.alloc (.cells #[.int .i64 4, .int .i64 (P : Int), .bool false, .string noS, .slice ra m rc0, .slice none 0 0, .slice none 0 0] 33 (0, 0))) := heap_alloc_new _ _
  go_region_held3 (fun w' => w'.cell? ⟨w.heap.size, 1, none⟩ = some (.int .i64 (P : Int)) ∧ BoxR w.heap.size #[.int .i64 4, .int .i64 (P : Int), .bool false, .string noS, .slice ra m rc0, .slice none 0 0, .slice none 0 0] w') (first | exact BoxR.two ‹_› | exact BoxR.two (BoxR.drew hB0)) ((go_at_call 174; refine (T1.out _).mono ?_; rintro e w8 ⟨rfl, hb⟩; have hB8 := BoxR.next (BoxR.drew hB0) hb; have hb8 : Below w.heap.size w w8 := bcall (by repeat (first | assumption | exact Below.refl _ _ | apply Below.drew | apply below_drewN | apply balloc | (refine Below.setCell ?_ (by first | omega | (simp <;> omega)) _))) hb; clear hb))
  obtain ⟨c0, c2, c3, c4, c5, c6⟩ := hB8.all
  have hlt8 := ltB hB8
  replace hB8 := Lib.hid hB8
  go_wp2_with fail
  go_loopw [88] (fun v88 wr => ∃ k : Nat, k ≤ m ∧ v88 = .int .i64 (k : Int) ∧ Hid (BoxR w.heap.size #[.int .i64 4, .int .i64 (P : Int), .bool false, .string noS, .slice ra m rc0, .slice none 0 0, .slice none 0 0] wr) ∧ Below w.heap.size w wr) (fun v _ => m - (intOf v).toNat)
  case atStart => exact ⟨0, Nat.zero_le _, rfl, Lib.hid (hB8.out.next (balloc (Below.refl _ _))), (by repeat (first | assumption | exact Below.refl _ _ | apply Below.drew | apply below_drewN | apply balloc | (refine Below.setCell ?_ (by first | omega | (simp <;> omega)) _)))⟩
  case round =>
    obtain ⟨k, hkn, rfl, hBr, hbr⟩ := hrel
    clear c0 c2 c3 c4 c5 c6 hb8 hB8
    by_cases hlt : k < m
    · have hltI : (k : Int) < (m : Int) := by omega
      obtain ⟨c, hc⟩ : ∃ c, cs[k]? = some c := ⟨cs[k]'(by rw [← hm.out]; exact hlt), List.getElem?_eq_getElem _⟩
      obtain ⟨rc, hrc⟩ : ∃ rc, rcs[k]? = some rc := ⟨rcs[k]'(by rw [hlen.out]; exact hlt), List.getElem?_eq_getElem _⟩
      have hcm := List.mem_of_getElem? hc
      have hrm := List.mem_of_getElem? hrc
      obtain ⟨g, rfl⟩ : ∃ g, va = some ⟨g, 0, none⟩ := by
        rcases rowForm2 hr.out with ⟨h, _⟩ | ⟨g, cap, h, _⟩
        · omega
        · cases h; exact ⟨g, rfl⟩
      obtain ⟨rg, rfl⟩ : ∃ g, ra = some ⟨g, 0, none⟩ := by
        rcases rowForm2 hr2.out with ⟨h, _⟩ | ⟨g, cap, h, _⟩
        · omega
        · cases h; exact ⟨g, rfl⟩
      have hrm3 : m ≤ rc0 := by
        rcases rowForm2 hr2.out with ⟨h, _⟩ | ⟨g, cap, h, _, _, h5, _⟩
        · omega
        · cases h; exact h5
      have q0 := rowCells (row_below hr1.out hbr) (j := k) (u := c.u) (by rw [List.getElem?_map, hc]; rfl)
      obtain ⟨ut, ua, hu⟩ := hform c hcm
      obtain ⟨m2, p2, f2, t2, vi2, vk2, vp2, hu2, ⟨a1, n1, c1, rfl⟩, ⟨a2, n2, c2, rfl⟩, ⟨a3, n3, c3, rfl⟩⟩ := hform2 rc hrm
      have hq : ∀ i u, i < 7 → rc.u[i]? = some u → wr.cell? ⟨rg, k * 7 + i, none⟩ = some u := fun i u hi h => rowCells (row_below hr3.out hbr) ((flat7 rcs k rc i hl7 hrc hi).trans h)
      rw [hu2] at hq
      have s0 : wr.cell? ⟨rg, k * 7, none⟩ = _ := hq 0 _ (by decide) rfl
      have s1 := hq 1 _ (by decide) rfl
      have s2 := hq 2 _ (by decide) rfl
      have s3 := hq 3 _ (by decide) rfl
      have s4 := hq 4 _ (by decide) rfl
      have s5 := hq 5 _ (by decide) rfl
      have s6 := hq 6 _ (by decide) rfl
      clear hq
      have b4 := cellB hBr.out 4 rfl
      have hcf := hk c hcm
      have hrf := hk2 rc hrm
      have IC := ih k c rc hc hrc wr (fun j a d => (hbr.block j (by have := hcf.2; omega)).trans (hw.out j (Nat.le_trans hcf.1 a) (Nat.lt_of_lt_of_le d hcf.2))) (fun j a d => (hbr.block j (by have := hrf.2.2; omega)).trans (hw2.out j (Nat.le_trans hrf.1 a) (Nat.lt_of_lt_of_le d hrf.2.2))) (by have := hcf.2; have := hbr.size; omega) (by have := hrf.2.2; have := hbr.size; omega)
      rw [hu2, hu, rdC_arr] at IC
      replace IC := Lib.hid IC
      rw [hu] at q0
      replace hu := Lib.hid hu
      replace hu2 := Lib.hid hu2
      replace hc := Lib.hid hc
      replace hrc := Lib.hid hrc
      go_wp2_with fail
      refine IC.out.mono ?_
      rintro e w3 ⟨rfl, hb⟩
      have hBr3 := Lib.hid (hBr.out.next hb)
      have hbr3 := hbr.trans (hb.mono hbr.size)
      clear hb q0 s0 s1 s2 s3 s4 s5 s6 b4
      go_wp2_with fail
      go_roundw
      case measure => simp [intOf]; omega
      case rel => exact ⟨k + 1, by omega, by go_num, hBr3, hbr3⟩
    · obtain rfl : m = k := by omega
      have hlt' : ¬ (m : Int) < (m : Int) := by omega
      go_wp2_with fail
      go_ret
      exact ⟨rfl, hbr⟩

end Go.Proofs.YtibopkodoidjoaaGreatDoor

/- Package tree: format of a list and of an object. -/
namespace Go.Proofs.YtibopkodoidjoaaGreatDoor
open Go Go.RowKit

theorem new2 (w : World) (a b : Obj) : ((w.alloc a).alloc b).heap[w.heap.size + 1]? = some b := by
  have := heap_alloc_new (w.alloc a) b
  simpa using this
theorem old2 (w : World) (a b : Obj) : ((w.alloc a).alloc b).heap[w.heap.size]? = some a := by
  rw [Below.heap_alloc _ _ _ (by simp)]
  exact heap_alloc_new w a
/-- A box that the call made, behind a write to a list of bytes that is not that box. -/
theorem box_row {w w' : World} {g : Nat} {o : Option Nat} {x : Obj} (h : w.heap[g]? = some x) (hg : w.grownBy w' o) (hne : o ≠ some g) : w'.heap[g]? = some x := (hg.block g (ltB h) (fun e => hne e.symm)).trans h
set_option maxHeartbeats 2000000 in
set_option maxRecDepth 100000 in
theorem fmt_lst {A : Nat → Addr} {B : Nat} {w0 : World} (lo hi p : Nat) (vr : Value) (cs : List Kid) (hr : w0.ownsRow lo 24 1 vr cs.length (cs.map Kid.u)) (hb0 : ∀ k, vr.ownBlock = some k → k < hi)
    (hk : ∀ c ∈ cs, c.fits lo hi vr.ownBlock) (ih : ∀ c ∈ cs, FmtC A B w0 c.l c.h c.u c.x) : FmtC A B w0 lo hi (.iface 98 (.agg #[.int .i64 (p : Int), vr])) (.lst p (cs.map Kid.x)) := by
  intro w base v l hw hE hh hb hB ho hl hA
  rw [fmtN] at hl ⊢
  have hr1 : w.ownsRow lo 24 1 vr cs.length (cs.map Kid.u) := ownsRow_heap hr (fun k e => hw k (hr.lt k e).1 (hb0 k e))
  obtain ⟨n, hn⟩ : ∃ n, n = cs.length := ⟨_, rfl⟩
  obtain ⟨xs, hxs⟩ : ∃ xs, xs = cs.map Kid.x := ⟨_, rfl⟩
  have hA' : allL smallT xs := by rw [hxs]; exact hA
  rw [← hxs] at hl ⊢
  rw [← hn] at hr1
  rw [List.length_cons, List.length_append, List.length_singleton] at hl
  have hpre := Lib.hid (fmtL_pre xs)
  have htk := Lib.hid (fun k x (h : xs[k]? = some x) => fmtL_take h)
  have hall : xs.take n = xs := List.take_of_length_le (by rw [hxs, hn]; simp)
  replace hall := Lib.hid hall
  have hF : ∃ a c, vr = .slice a n c := by
    obtain ⟨a, c, h⟩ := rowForm hr1
    exact ⟨a, c, h⟩
  obtain ⟨va, vc, rfl⟩ := hF
  have hnm : n ≤ maxLen := by
    rcases rowForm2 hr1 with ⟨h, _⟩ | ⟨g, cap, h, _, _, h1, h2⟩
    · omega
    · omega
  unfold maxLen at hnm
  have hnI : (n : Int) ≤ 9223372036854775807 := by omega
  replace hr1 := Lib.hid hr1
  replace hw := Lib.hid hw
  replace ho := Lib.hid ho
  replace hA := Lib.hid hA'
  replace hn := Lib.hid hn
  replace hxs := Lib.hid hxs
  replace hl := Lib.hid hl
  clear hA'
  go_enter Tryz.func39, Tryz.ntmps39
  go_wp2_with (at_builtin; refine app_lit rfl _ _ rfl base v l rfl ((ho.out.alloc _).alloc _) _ 1 1 _ _ _ [91] rfl (new2 w _ _) rfl rfl (by have := hl.out; omega) (by simp; omega) ?_)
  intro v1 w1 ho1 hg1
  have hB1 : FB base w w1 := (((FB.refl base w).alloc hb _).alloc (by simp; omega) _).row ((ho.out.alloc _).alloc _) hg1 (by simp; omega)
  have hvb : v.ownBlock ≠ some w.heap.size := fun e => by have := (World.ownsRow.lt ho.out _ e).2; omega
  have t1 : w1.heap[w.heap.size]? = some (.cells #[.int .i64 (p : Int), .slice va n vc] 98 (0, 0)) := box_row (old2 w _ _) hg1 hvb
  have y0 := cellB t1 1 rfl
  have hz1 := hB1.size
  have hzb : base ≤ w1.heap.size := by omega
  have hz : w.heap.size < w1.heap.size := ltB t1
  clear hg1 hvb
  replace t1 := Lib.hid t1
  replace ho1 := Lib.hid ho1
  go_wp2_with fail
  go_loopw [0, 51] (fun v0 v51 wr => ∃ k : Nat, k ≤ n ∧ v51 = .int .i64 (k : Int) ∧ Hid (OwnB wr base v0 (l ++ 91 :: fmtL true (xs.take k))) ∧ FB base w wr) (fun _ v _ => n - (intOf v).toNat)
  case atStart => exact ⟨0, Nat.zero_le _, rfl, Lib.hid (by rw [List.take_zero, fmtL]; exact ho1.out), hB1⟩
  case round =>
    obtain ⟨k, hkn, rfl, hoR, hBr⟩ := hrel
    have hzr := hBr.size
    clear hB1 ho1 hz1 hzb hz y0
    have hbr : base ≤ wr.heap.size := by omega
    by_cases hlt : k < n
    · have hltI : (k : Int) < (n : Int) := by omega
      obtain ⟨c, hc⟩ : ∃ c, cs[k]? = some c := ⟨cs[k]'(by rw [← hn.out]; exact hlt), List.getElem?_eq_getElem _⟩
      have hcm := List.mem_of_getElem? hc
      have hcx : xs[k]? = some c.x := by rw [hxs.out, List.getElem?_map, hc]; rfl
      have hcu : (cs.map Kid.u)[k]? = some c.u := by rw [List.getElem?_map, hc]; rfl
      have ihc := Lib.hid (ih c hcm)
      have hcf := hk c hcm
      have hAc := Lib.hid (allL_mem hA.out c.x (List.mem_of_getElem? hcx))
      have htk1 := htk.out k c.x hcx
      have hp1 := hpre.out (k + 1)
      rw [htk1] at hp1
      obtain ⟨g, rfl⟩ : ∃ g, va = some ⟨g, 0, none⟩ := by
        rcases rowForm2 hr1.out with ⟨h, _⟩ | ⟨g, cap, h, _⟩
        · omega
        · cases h; exact ⟨g, rfl⟩
      have hagree : Hid (∀ w', FB base w w' → ∀ j, c.l ≤ j → j < c.h → w'.heap[j]? = w0.heap[j]?) := Lib.hid (fun w' h j a b => (h.bel.block j (by have := hcf.2.2.1; omega)).trans (hw.out j (Nat.le_trans hcf.1 a) (Nat.lt_of_lt_of_le b hcf.2.2.1)))
      have hrow : wr.cell? ⟨g, k, none⟩ = some c.u := by
        refine rowCells (ownsRow_heap hr1.out fun j e => hBr.bel.block j ?_) hcu
        have := hb0 j e
        omega
      have hch : c.h ≤ base := Nat.le_trans hcf.2.2.1 hh
      have hEr := Lib.hid (hE.below (hBr.bel.mono hB))
      generalize c.u = cu at *
      generalize c.x = cx at *
      replace hcf := Lib.hid hcf
      replace hc := Lib.hid hc
      replace hcx := Lib.hid hcx
      replace hcu := Lib.hid hcu
      by_cases h0 : k = 0
      · subst h0
        rw [if_pos rfl] at htk1 hp1
        have hq : Hid ((l ++ 91 :: fmtL true (xs.take 0)).length + (fmtN cx).length ≤ 140737488355328) := Lib.hid (by
          rw [List.length_append] at hp1
          simp only [List.nil_append] at hp1
          rw [List.length_append, List.length_cons]
          have := hl.out
          omega)
        replace htk1 := Lib.hid htk1
        replace hp1 := Lib.hid hp1
        go_wp2_with fail
        refine (ihc.out _ base _ _ (hagree.out _ hBr) hEr.out hch hbr hB hoR.out hq.out hAc.out).mono ?_
        rintro e w4 ⟨v4, rfl, ho4, hb4⟩
        have hB4 := hBr.trans hb4
        replace ho4 := Lib.hid ho4
        clear hb4
        go_wp2_with fail
        go_roundw
        case measure => simp [intOf]; omega
        case rel => exact ⟨1, by omega, rfl, Lib.hid (by rw [htk1.out]; have := ho4.out; simpa using this), hB4⟩
      · rw [if_neg h0] at htk1 hp1
        have h0I : (0 : Int) < (k : Int) := by omega
        have hq : Hid ((l ++ 91 :: fmtL true (xs.take k) ++ [44]).length + (fmtN cx).length ≤ 140737488355328) := Lib.hid (by
          rw [List.length_append, List.length_append] at hp1
          rw [List.length_append, List.length_append, List.length_cons]
          have := hl.out
          omega)
        replace htk1 := Lib.hid htk1
        replace hp1 := Lib.hid hp1
        go_wp2_with (at_builtin; refine app_lit rfl _ _ rfl base _ _ rfl (hoR.out.alloc _) _ 1 1 _ _ _ [44] rfl (heap_alloc_new _ _) rfl rfl (by have := hq.out; rw [List.length_append] at this; simp only [List.length_singleton] at this; omega) (by simp; omega) ?_)
        intro v3 w3 ho3 hg3
        have hB3 : FB base w w3 := (hBr.alloc hbr _).row (hoR.out.alloc _) hg3 (by simp; omega)
        have hz3 := hB3.size
        clear hg3
        replace ho3 := Lib.hid ho3
        have hE3 := Lib.hid (hE.below (hB3.bel.mono hB))
        go_wp2_with fail
        refine (ihc.out _ base _ _ (hagree.out _ hB3) hE3.out hch (by omega) hB ho3.out (by have := hq.out; simp only [List.length_append, List.length_cons] at this ⊢; omega) hAc.out).mono ?_
        rintro e w4 ⟨v4, rfl, ho4, hb4⟩
        have hB4 := hB3.trans hb4
        replace ho4 := Lib.hid ho4
        clear hb4
        go_wp2_with fail
        go_roundw
        case measure => simp [intOf]; omega
        case rel => exact ⟨k + 1, by omega, by go_num, Lib.hid (by rw [htk1.out]; have := ho4.out; simpa using this), hB4⟩
    · obtain rfl : k = n := by omega
      have hlt' : ¬ (k : Int) < (k : Int) := by omega
      go_wp2_with (at_builtin; refine app_lit rfl _ _ rfl base _ _ rfl (hoR.out.alloc _) _ 1 1 _ _ _ [93] rfl (heap_alloc_new _ _) rfl rfl (by rw [hall.out, List.length_append, List.length_cons]; have := hl.out; omega) (by simp; omega) ?_)
      intro v3 w3 ho3 hg3
      have hB3 : FB base w w3 := (hBr.alloc hbr _).row (hoR.out.alloc _) hg3 (by simp; omega)
      rw [hall.out] at ho3
      clear hg3
      go_wp2_with fail
      go_ret
      exact ⟨v3, rfl, by simpa using ho3, hB3⟩

end Go.Proofs.YtibopkodoidjoaaGreatDoor

/- append of bytes of the call's own, in a region that draws its order. -/
namespace Go.Proofs.YtibopkodoidjoaaGreatDoor
open Go Go.RowKit

theorem step_app_lit {ops : Array Oper} {o : Oper} {a : Act} {w : World} {K : Act → World → Prop} {Q : Exit → Act → World → Prop} {E : Prop}
    (hgd : o.guard = none) (sl x : Operand) (ho : o.op = .call { callee := .builtin .append, args := #[sl, x], argTypes := #[104, 104] }) (base : Nat) (v : Value) (l : List UInt8) (hs : a.eval sl = v) (hown : OwnB w base v l)
    (g k c : Nat) (cs : Array Value) (t : TypeId) (fr : Nat × Nat) (news : List UInt8) (hx : a.eval x = .slice (some ⟨g, 0, none⟩) k c) (hg : w.heap[g]? = some (.cells cs t fr)) (hcs : cs = (u8c news).toArray) (hk : news.length = k)
    (hlen : l.length + k ≤ 140737488355328) (hbase : base ≤ w.heap.size)
    (h : ∀ v' w', OwnB w' base v' (l ++ news) → w.grownBy w' v.ownBlock → K (a.put o.dst v') w') : if Region.wanted o (yielded ops a.tmps) = true then Oper.wp Tryz.prog o a w K Q else E := by
  have hw : Region.wanted o (yielded ops a.tmps) = true := by simp [Region.wanted, hgd]
  rw [if_pos hw]
  obtain ⟨i0, hi, hi2⟩ := Option.map_eq_some_iff.1 infoU8
  simp only [Prod.mk.injEq] at hi2
  refine wp_append_own _ sl x 104 ho base 5 i0 (.int .u8 0) 1 1 Tryz.underlying104 hi hi2.1 hi2.2.1 hi2.2.2 rfl (by decide) v l.length (u8c l) hs hown ⟨g, 0, none⟩ k c (u8c news) hx (by rw [u8c_len]; omega) ?_ ?_ (by unfold maxLen; omega) (by omega) hbase ?_
  · intro j u hj
    have : (⟨g, 0, none⟩ : Addr).add j = ⟨g, j, none⟩ := by simp only [Addr.add, Nat.zero_add]; split <;> simp_all
    rw [this]
    refine cellB hg j ?_
    rw [hcs, List.getElem?_toArray]
    exact hj
  · intro u hu
    obtain ⟨b, _, rfl⟩ := List.mem_map.1 hu
    rfl
  · intro v' w' h1 h2 _
    refine h v' w' ?_ h2
    unfold OwnB
    rw [u8c_append, List.length_append, hk]
    exact h1

end Go.Proofs.YtibopkodoidjoaaGreatDoor

/- Package tree: format of an object. -/
namespace Go.Proofs.YtibopkodoidjoaaGreatDoor
open Go Go.RowKit

theorem flat_get3 : ∀ (cs : List Kid) (j : Nat) (c : Kid) (i : Nat), cs[j]? = some c → i < 3 → (cs.flatMap memC)[j * 3 + i]? = (memC c)[i]?
  | [], j, c, i, h, _ => by simp at h
  | t :: ts, 0, c, i, h, hi => by
    simp at h
    subst h
    rw [List.flatMap_cons, Nat.zero_mul, Nat.zero_add, List.getElem?_append_left (by show i < 3; exact hi)]
  | t :: ts, j + 1, c, i, h, hi => by
    simp at h
    rw [List.flatMap_cons, List.getElem?_append_right (by show 3 ≤ (j + 1) * 3 + i; omega)]
    have : (j + 1) * 3 + i - (memC t).length = j * 3 + i := by show (j + 1) * 3 + i - 3 = _; omega
    rw [this]
    exact flat_get3 ts j c i h hi
theorem rowMem {w : World} {base g n cap : Nat} {cs : List Kid} (h : w.ownsRow base 103 3 (.slice (some ⟨g, 0, none⟩) n cap) n (cs.flatMap memC)) {j : Nat} {c : Kid} (hj : cs[j]? = some c) :
    w.cell? ⟨g, j * 3, none⟩ = some (.string c.key) ∧ w.cell? ⟨g, j * 3 + 1, none⟩ = some (.int .i64 (c.pl : Int)) ∧ w.cell? ⟨g, j * 3 + 2, none⟩ = some c.u := by
  have h0 := flat_get3 cs j c 0 hj (by decide)
  have h1 := flat_get3 cs j c 1 hj (by decide)
  have h2 := flat_get3 cs j c 2 hj (by decide)
  exact ⟨rowCells h h0, rowCells h h1, rowCells h h2⟩
/-- A member lies in block g. -/
def MemHeld (g : Nat) (key : ByteArray) (pl : Nat) (u : Value) (w : World) : Prop := w.heap[g]? = some (.cells #[.string key, .int .i64 (pl : Int), u] 103 (0, 0))
theorem MemHeld.cells {g : Nat} {key : ByteArray} {pl : Nat} {u : Value} {w : World} (h : MemHeld g key pl u w) : w.cell? ⟨g, 0, none⟩ = some (.string key) ∧ w.cell? ⟨g, 2, none⟩ = some u ∧ MemHeld g key pl u w := ⟨cellB h 0 rfl, cellB h 2 rfl, h⟩
theorem MemHeld.drew {g : Nat} {key : ByteArray} {pl : Nat} {u : Value} {w : World} (h : MemHeld g key pl u w) : MemHeld g key pl u w.drew := h
theorem MemHeld.alloc {g : Nat} {key : ByteArray} {pl : Nat} {u : Value} {w : World} (h : MemHeld g key pl u w) (o : Obj) : MemHeld g key pl u (w.alloc o) := box_next h ((Below.refl _ _).alloc (Nat.le_refl _) _)
theorem MemHeld.fb {g base : Nat} {key : ByteArray} {pl : Nat} {u : Value} {w w' : World} (h : MemHeld g key pl u w) (hf : FB base w w') : MemHeld g key pl u w' := hf.keep _ _ h (fun cs fr e => by cases e)
/-- The ':' in a block of its own. -/
abbrev Col : Obj := .cells #[.int .u8 58] 5 (0, 0)
set_option maxHeartbeats 2000000 in
set_option maxRecDepth 100000 in
theorem fmt_obj {A : Nat → Addr} {B : Nat} {w0 : World} (lo hi p : Nat) (vr : Value) (cs : List Kid) (hr : w0.ownsRow lo 103 3 vr cs.length (cs.flatMap memC)) (hb0 : ∀ k, vr.ownBlock = some k → k < hi)
    (hk : ∀ c ∈ cs, c.fits lo hi vr.ownBlock) (hform : ∀ c ∈ cs, ∃ t a, c.u = .iface t a) (ih : ∀ c ∈ cs, FmtC A B w0 c.l c.h c.u c.x) : FmtC A B w0 lo hi (.iface 101 (.agg #[.int .i64 (p : Int), vr])) (.obj p (cs.map Kid.mem)) := by
  intro w base v l hw hE hh hb hB ho hl hA
  rw [fmtN] at hl ⊢
  have hr1 : w.ownsRow lo 103 3 vr cs.length (cs.flatMap memC) := ownsRow_heap hr (fun k e => hw k (hr.lt k e).1 (hb0 k e))
  obtain ⟨n, hn⟩ : ∃ n, n = cs.length := ⟨_, rfl⟩
  obtain ⟨xs, hxs⟩ : ∃ xs, xs = cs.map Kid.mem := ⟨_, rfl⟩
  have hA' : allM smallT xs := by rw [hxs]; exact hA
  rw [← hxs] at hl ⊢
  rw [← hn] at hr1
  rw [List.length_cons, List.length_append, List.length_singleton] at hl
  have hpre := Lib.hid (fmtM_pre xs)
  have htk := Lib.hid (fun k t p x (h : xs[k]? = some (t, p, x)) => fmtM_take h)
  have hall : xs.take n = xs := List.take_of_length_le (by rw [hxs, hn]; simp)
  replace hall := Lib.hid hall
  have hF : ∃ a c, vr = .slice a n c := by
    obtain ⟨a, c, h⟩ := rowForm hr1
    exact ⟨a, c, h⟩
  obtain ⟨va, vc, rfl⟩ := hF
  have hnm : n ≤ maxLen := by
    rcases rowForm2 hr1 with ⟨h, _⟩ | ⟨g, cap, h, _, _, h1, h2⟩
    · omega
    · omega
  unfold maxLen at hnm
  have hnI : (n : Int) ≤ 9223372036854775807 := by omega
  replace hr1 := Lib.hid hr1
  replace hw := Lib.hid hw
  replace ho := Lib.hid ho
  replace hA := Lib.hid hA'
  replace hn := Lib.hid hn
  replace hxs := Lib.hid hxs
  replace hl := Lib.hid hl
  clear hA'
  go_enter Tryz.func39, Tryz.ntmps39
  go_wp2_with (at_builtin; refine app_lit rfl _ _ rfl base v l rfl ((ho.out.alloc _).alloc _) _ 1 1 _ _ _ [123] rfl (new2 w _ _) rfl rfl (by have := hl.out; omega) (by simp; omega) ?_)
  intro v1 w1 ho1 hg1
  have hB1 : FB base w w1 := (((FB.refl base w).alloc hb _).alloc (by simp; omega) _).row ((ho.out.alloc _).alloc _) hg1 (by simp; omega)
  have hvb : v.ownBlock ≠ some w.heap.size := fun e => by have := (World.ownsRow.lt ho.out _ e).2; omega
  have t1 : w1.heap[w.heap.size]? = some (.cells #[.int .i64 (p : Int), .slice va n vc] 101 (0, 0)) := box_row (old2 w _ _) hg1 hvb
  have y0 := cellB t1 1 rfl
  have hz1 := hB1.size
  have hzb : base ≤ w1.heap.size := by omega
  have hz : w.heap.size < w1.heap.size := ltB t1
  clear hg1 hvb
  replace t1 := Lib.hid t1
  replace ho1 := Lib.hid ho1
  go_wp2_with fail
  go_loopw [0, 77] (fun v0 v77 wr => ∃ k : Nat, k ≤ n ∧ v77 = .int .i64 (k : Int) ∧ Hid (OwnB wr base v0 (l ++ 123 :: fmtM true (xs.take k))) ∧ FB base w wr) (fun _ v _ => n - (intOf v).toNat)
  case atStart => exact ⟨0, Nat.zero_le _, rfl, Lib.hid (by rw [List.take_zero, fmtM]; exact ho1.out), hB1⟩
  case round =>
    obtain ⟨k, hkn, rfl, hoR, hBr⟩ := hrel
    have hzr := hBr.size
    clear hB1 ho1 hz1 hzb hz y0
    have hbr : base ≤ wr.heap.size := by omega
    by_cases hlt : k < n
    · have hltI : (k : Int) < (n : Int) := by omega
      obtain ⟨c, hc⟩ : ∃ c, cs[k]? = some c := ⟨cs[k]'(by rw [← hn.out]; exact hlt), List.getElem?_eq_getElem _⟩
      have hcm := List.mem_of_getElem? hc
      have hcx : xs[k]? = some (c.key, c.pl, c.x) := by rw [hxs.out, List.getElem?_map, hc]; rfl
      have ihc := Lib.hid (ih c hcm)
      have hcf := hk c hcm
      have hA2 := allM_mem hA.out _ (List.mem_of_getElem? hcx)
      have hAk := Lib.hid (show c.key.size ≤ 3518437208882 from hA2.1)
      have hAc := Lib.hid hA2.2
      clear hA2
      have htk1 := htk.out k _ _ _ hcx
      have hp1 := hpre.out (k + 1)
      rw [htk1] at hp1
      obtain ⟨g, rfl⟩ : ∃ g, va = some ⟨g, 0, none⟩ := by
        rcases rowForm2 hr1.out with ⟨h, _⟩ | ⟨g, cap, h, _⟩
        · omega
        · cases h; exact ⟨g, rfl⟩
      have hagree : Hid (∀ w', FB base w w' → ∀ j, c.l ≤ j → j < c.h → w'.heap[j]? = w0.heap[j]?) := Lib.hid (fun w' h j a b => (h.bel.block j (by have := hcf.2.2.1; omega)).trans (hw.out j (Nat.le_trans hcf.1 a) (Nat.lt_of_lt_of_le b hcf.2.2.1)))
      have hrow := rowMem (ownsRow_heap hr1.out fun j e => hBr.bel.block j (by have := hb0 j e; omega)) hc
      obtain ⟨q0, q1, q2⟩ := hrow
      have hch : c.h ≤ base := Nat.le_trans hcf.2.2.1 hh
      have hEr := Lib.hid (hE.below (hBr.bel.mono hB))
      obtain ⟨ut, ua, hu⟩ := hform c hcm
      rw [hu] at q2 ihc
      replace hu := Lib.hid hu
      generalize c.x = cx at *
      generalize c.key = key at *
      generalize c.pl = pl at *
      replace hcf := Lib.hid hcf
      replace hc := Lib.hid hc
      replace hcx := Lib.hid hcx
      by_cases h0 : k = 0
      · subst h0
        rw [if_pos rfl] at htk1 hp1
        have hq : Hid ((l ++ 123 :: fmtM true (xs.take 0) ++ qN key ++ [58]).length + (fmtN cx).length ≤ 140737488355328) := Lib.hid (by
          rw [List.length_append] at hp1
          simp only [List.nil_append, List.length_append, List.length_cons] at hp1
          simp only [List.length_append, List.length_cons, List.length_nil]
          have := hl.out
          omega)
        replace htk1 := Lib.hid htk1
        replace hp1 := Lib.hid hp1
        have hMX : MemHeld wr.heap.size key pl (.iface ut ua) (wr.alloc (.cells #[.string key, .int .i64 (pl : Int), .iface ut ua] 103 (0, 0))) := heap_alloc_new wr _
        have hoX : Hid (OwnB (wr.alloc (.cells #[.string key, .int .i64 (pl : Int), .iface ut ua] 103 (0, 0))) base u0 (l ++ 123 :: fmtM true (xs.take 0))) := Lib.hid (hoR.out.alloc _)
        have hBX : FB base w (wr.alloc (.cells #[.string key, .int .i64 (pl : Int), .iface ut ua] 103 (0, 0))) := hBr.alloc hbr _
        go_wp2_with fail
        generalize wr.alloc (.cells #[.string key, .int .i64 (pl : Int), .iface ut ua] 103 (0, 0)) = X at *
        have QC : Hid (∀ W, OwnB W base u0 (l ++ 123 :: fmtM true (xs.take 0)) → Env A B SU W → base ≤ W.heap.size → Calls Tryz.prog 70 #[u0, .string key] W (fun e w' => OutR base W (l ++ 123 :: fmtM true (xs.take 0) ++ qN key) e w' ∧ W.grownBy w' (u0).ownBlock)) := Lib.hid (fun W h1 h2 h3 => quoted_calls key u0 _ W h2 h1 h3 hAk.out (by have := hq.out; simp only [List.length_append, List.length_cons] at this ⊢; omega))
        have AP : Hid (∀ x : Nat, x = (l ++ 123 :: fmtM true (xs.take 0) ++ qN key).length → x + 1 ≤ 140737488355328) := Lib.hid (fun x hx => by have := hq.out; simp only [List.length_append, List.length_cons, List.length_nil] at this hx; omega)
        have hlv : Hid (∀ k, (u0).ownBlock = some k → k < X.heap.size) := Lib.hid (fun k e => (World.ownsRow.lt hoX.out k e).2)
        have hsX := hBX.size
        have hbX : base ≤ X.heap.size := by omega
        have hEX : Hid (∀ W, FB base X W → Env A B SU W) := Lib.hid (fun W h => hE.below ((hBX.trans h).bel.mono hB))
        have hXd : FB base X X.drew := FB.ofB (below_drewN (Below.refl _ _) 1) hbX
        have hXc : FB base X (X.alloc Col).drew := (FB.alloc (FB.refl _ _) hbX Col).trans (FB.ofB (below_drewN (Below.refl _ _) 1) (by simp; omega))
        have hbXd : base ≤ X.drew.heap.size := hbX
        have hbXc : base ≤ (X.alloc Col).drew.heap.size := by have := hXc.size; omega
        have hoXd : Hid (OwnB X.drew base u0 (l ++ 123 :: fmtM true (xs.take 0))) := Lib.hid (hoX.out.next (below_drewN (Below.refl _ _) 1))
        have hoXc : Hid (OwnB (X.alloc Col).drew base u0 (l ++ 123 :: fmtM true (xs.take 0))) := Lib.hid ((OwnB.alloc hoX.out Col).next (below_drewN (Below.refl _ _) 1))
        go_wp2_with fail
        go_region_held3 (fun w' => w'.cell? ⟨wr.heap.size, 0, none⟩ = some (.string key) ∧ w'.cell? ⟨wr.heap.size, 2, none⟩ = some (.iface ut ua) ∧ MemHeld wr.heap.size key pl (.iface ut ua) w') (first | exact MemHeld.cells ‹_› | exact MemHeld.cells (MemHeld.alloc ‹_› _) | exact MemHeld.cells (MemHeld.alloc hMX _).drew | exact MemHeld.cells hMX.drew) (first
          | (go_at_call 70; (with_reducible refine (QC.out X.drew hoXd.out (hEX.out _ hXd) hbXd).mono ?_); rintro e w5 ⟨⟨v5, rfl, ho5, hF5⟩, hG5⟩; have hM5 := MemHeld.fb hMX.drew hF5; have hz5 := FB.size hF5; have hF5' := hXd.trans hF5)
          | (go_at_call 70; (with_reducible refine (QC.out (X.alloc Col).drew hoXc.out (hEX.out _ hXc) hbXc).mono ?_); rintro e w5 ⟨⟨v5, rfl, ho5, hF5⟩, hG5⟩; have hM5 := MemHeld.fb (MemHeld.alloc hMX Col).drew hF5; have hz5 := FB.size hF5; have hlit := box_row (show (X.alloc Col).drew.heap[X.heap.size]? = some Col from heap_alloc_new X Col) hG5 (fun e => by have := hlv.out _ e; omega); have hF5' := hXc.trans hF5)
          | (refine step_app_lit rfl _ _ rfl base v5 (l ++ 123 :: fmtM true (xs.take 0) ++ qN key) rfl (ho5.alloc Col) w5.heap.size 1 1 #[.int .u8 58] 5 (0, 0) [58] rfl (heap_alloc_new w5 _) rfl rfl (AP.out _ rfl) (by have := FB.size hF5'; simp; omega) ?_; intro v6 w6 ho6 hg6; have hF6 := FB.row (FB.alloc hF5' (by have := FB.size hF5'; omega) Col) (ho5.alloc Col) hg6 (by have := FB.size hF5'; simp; omega); have hM6 := MemHeld.fb hMX hF6)
          | (refine step_app_lit rfl _ _ rfl base v5 (l ++ 123 :: fmtM true (xs.take 0) ++ qN key) rfl ho5 X.heap.size 1 1 #[.int .u8 58] 5 (0, 0) [58] rfl hlit rfl rfl (AP.out _ rfl) (by have := FB.size hF5'; omega) ?_; intro v6 w6 ho6 hg6; have hF6 := FB.row hF5' ho5 hg6 (by have := FB.size hF5'; omega); have hM6 := MemHeld.fb hMX hF6)
          | (go_at_call 39; have hz6 : base ≤ w6.heap.size := Nat.le_trans hbX (FB.size hF6); have Q := ihc.out w6 base v6 _ (hagree.out _ (hBX.trans hF6)) (hEX.out _ hF6) hch hz6 hB ho6 hq.out hAc.out; (with_reducible refine Q.mono ?_); rintro e w7 ⟨v7, rfl, ho7, hF7⟩; have hM7 := MemHeld.fb hM6 hF7; have hB7 := (hBX.trans hF6).trans hF7; replace ho7 := Lib.hid ho7))
        all_goals
          go_wp2_with fail
          go_roundw
          case measure => simp [intOf]; omega
          case rel => exact ⟨1, by omega, rfl, Lib.hid (by rw [htk1.out]; have := ho7.out; simpa using this), hB7⟩
      · rw [if_neg h0] at htk1 hp1
        have h0I : (0 : Int) < (k : Int) := by omega
        have hq : Hid ((l ++ 123 :: fmtM true (xs.take k) ++ [44] ++ qN key ++ [58]).length + (fmtN cx).length ≤ 140737488355328) := Lib.hid (by
          rw [List.length_append] at hp1
          simp only [List.length_append, List.length_cons, List.length_nil] at hp1
          simp only [List.length_append, List.length_cons, List.length_nil]
          have := hl.out
          omega)
        replace htk1 := Lib.hid htk1
        replace hp1 := Lib.hid hp1
        have hvb2 : ∀ k, u0.ownBlock = some k → k < wr.heap.size := fun k e => (World.ownsRow.lt hoR.out k e).2
        go_wp2_with (at_builtin; refine app_lit rfl _ _ rfl base _ _ rfl ((hoR.out.alloc _).alloc _) _ 1 1 _ _ _ [44] rfl (new2 wr _ _) rfl rfl (by have := hq.out; simp only [List.length_append, List.length_cons, List.length_nil] at this ⊢; omega) (by simp; omega) ?_)
        intro v3 X ho3 hg3
        have hBX : FB base w X := ((hBr.alloc hbr _).alloc (by simp; omega) _).row ((hoR.out.alloc _).alloc _) hg3 (by simp; omega)
        have hMX : MemHeld wr.heap.size key pl (.iface ut ua) X := box_row (old2 wr _ _) hg3 (fun e => by have := hvb2 _ e; omega)
        have hoX : Hid (OwnB X base v3 (l ++ 123 :: fmtM true (xs.take k) ++ [44])) := Lib.hid (by simpa using ho3)
        clear hg3 ho3 hvb2
        have QC : Hid (∀ W, OwnB W base v3 (l ++ 123 :: fmtM true (xs.take k) ++ [44]) → Env A B SU W → base ≤ W.heap.size → Calls Tryz.prog 70 #[v3, .string key] W (fun e w' => OutR base W (l ++ 123 :: fmtM true (xs.take k) ++ [44] ++ qN key) e w' ∧ W.grownBy w' (v3).ownBlock)) := Lib.hid (fun W h1 h2 h3 => quoted_calls key v3 _ W h2 h1 h3 hAk.out (by have := hq.out; simp only [List.length_append, List.length_cons] at this ⊢; omega))
        have AP : Hid (∀ x : Nat, x = (l ++ 123 :: fmtM true (xs.take k) ++ [44] ++ qN key).length → x + 1 ≤ 140737488355328) := Lib.hid (fun x hx => by have := hq.out; simp only [List.length_append, List.length_cons, List.length_nil] at this hx; omega)
        have hlv : Hid (∀ k, (v3).ownBlock = some k → k < X.heap.size) := Lib.hid (fun k e => (World.ownsRow.lt hoX.out k e).2)
        have hsX := hBX.size
        have hbX : base ≤ X.heap.size := by omega
        have hEX : Hid (∀ W, FB base X W → Env A B SU W) := Lib.hid (fun W h => hE.below ((hBX.trans h).bel.mono hB))
        have hXd : FB base X X.drew := FB.ofB (below_drewN (Below.refl _ _) 1) hbX
        have hXc : FB base X (X.alloc Col).drew := (FB.alloc (FB.refl _ _) hbX Col).trans (FB.ofB (below_drewN (Below.refl _ _) 1) (by simp; omega))
        have hbXd : base ≤ X.drew.heap.size := hbX
        have hbXc : base ≤ (X.alloc Col).drew.heap.size := by have := hXc.size; omega
        have hoXd : Hid (OwnB X.drew base v3 (l ++ 123 :: fmtM true (xs.take k) ++ [44])) := Lib.hid (hoX.out.next (below_drewN (Below.refl _ _) 1))
        have hoXc : Hid (OwnB (X.alloc Col).drew base v3 (l ++ 123 :: fmtM true (xs.take k) ++ [44])) := Lib.hid ((OwnB.alloc hoX.out Col).next (below_drewN (Below.refl _ _) 1))
        go_wp2_with fail
        go_region_held3 (fun w' => w'.cell? ⟨wr.heap.size, 0, none⟩ = some (.string key) ∧ w'.cell? ⟨wr.heap.size, 2, none⟩ = some (.iface ut ua) ∧ MemHeld wr.heap.size key pl (.iface ut ua) w') (first | exact MemHeld.cells ‹_› | exact MemHeld.cells (MemHeld.alloc ‹_› _) | exact MemHeld.cells (MemHeld.alloc hMX _).drew | exact MemHeld.cells hMX.drew) (first
          | (go_at_call 70; (with_reducible refine (QC.out X.drew hoXd.out (hEX.out _ hXd) hbXd).mono ?_); rintro e w5 ⟨⟨v5, rfl, ho5, hF5⟩, hG5⟩; have hM5 := MemHeld.fb hMX.drew hF5; have hz5 := FB.size hF5; have hF5' := hXd.trans hF5)
          | (go_at_call 70; (with_reducible refine (QC.out (X.alloc Col).drew hoXc.out (hEX.out _ hXc) hbXc).mono ?_); rintro e w5 ⟨⟨v5, rfl, ho5, hF5⟩, hG5⟩; have hM5 := MemHeld.fb (MemHeld.alloc hMX Col).drew hF5; have hz5 := FB.size hF5; have hlit := box_row (show (X.alloc Col).drew.heap[X.heap.size]? = some Col from heap_alloc_new X Col) hG5 (fun e => by have := hlv.out _ e; omega); have hF5' := hXc.trans hF5)
          | (refine step_app_lit rfl _ _ rfl base v5 (l ++ 123 :: fmtM true (xs.take k) ++ [44] ++ qN key) rfl (ho5.alloc Col) w5.heap.size 1 1 #[.int .u8 58] 5 (0, 0) [58] rfl (heap_alloc_new w5 _) rfl rfl (AP.out _ rfl) (by have := FB.size hF5'; simp; omega) ?_; intro v6 w6 ho6 hg6; have hF6 := FB.row (FB.alloc hF5' (by have := FB.size hF5'; omega) Col) (ho5.alloc Col) hg6 (by have := FB.size hF5'; simp; omega); have hM6 := MemHeld.fb hMX hF6)
          | (refine step_app_lit rfl _ _ rfl base v5 (l ++ 123 :: fmtM true (xs.take k) ++ [44] ++ qN key) rfl ho5 X.heap.size 1 1 #[.int .u8 58] 5 (0, 0) [58] rfl hlit rfl rfl (AP.out _ rfl) (by have := FB.size hF5'; omega) ?_; intro v6 w6 ho6 hg6; have hF6 := FB.row hF5' ho5 hg6 (by have := FB.size hF5'; omega); have hM6 := MemHeld.fb hMX hF6)
          | (go_at_call 39; have hz6 : base ≤ w6.heap.size := Nat.le_trans hbX (FB.size hF6); have Q := ihc.out w6 base v6 _ (hagree.out _ (hBX.trans hF6)) (hEX.out _ hF6) hch hz6 hB ho6 hq.out hAc.out; (with_reducible refine Q.mono ?_); rintro e w7 ⟨v7, rfl, ho7, hF7⟩; have hM7 := MemHeld.fb hM6 hF7; have hB7 := (hBX.trans hF6).trans hF7; replace ho7 := Lib.hid ho7))
        all_goals
          go_wp2_with fail
          go_roundw
          case measure => simp [intOf]; omega
          case rel => exact ⟨k + 1, by omega, by go_num, Lib.hid (by rw [htk1.out]; have := ho7.out; simpa using this), hB7⟩
    · obtain rfl : k = n := by omega
      have hlt' : ¬ (k : Int) < (k : Int) := by omega
      go_wp2_with (at_builtin; refine app_lit rfl _ _ rfl base _ _ rfl (hoR.out.alloc _) _ 1 1 _ _ _ [125] rfl (heap_alloc_new _ _) rfl rfl (by rw [hall.out, List.length_append, List.length_cons]; have := hl.out; omega) (by simp; omega) ?_)
      intro v3 w3 ho3 hg3
      have hB3 : FB base w w3 := (hBr.alloc hbr _).row (hoR.out.alloc _) hg3 (by simp; omega)
      rw [hall.out] at ho3
      clear hg3
      go_wp2_with fail
      go_ret
      exact ⟨v3, rfl, by simpa using ho3, hB3⟩
theorem format_calls {A : Nat → Addr} {B : Nat} {w0 : World} {lo hi : Nat} {u : Value} {x : Nd} (h : OwnN w0 lo hi u x) : FmtC A B w0 lo hi u x := by
  induction h with
  | null lo hi p => exact fmt_null lo hi p
  | flag lo hi p b => exact fmt_flag lo hi p b
  | num lo hi p t => exact fmt_num lo hi p t
  | text lo hi p t => exact fmt_text lo hi p t
  | lst lo hi p v cs ho hb hk hp hc ih => exact fmt_lst lo hi p v cs ho hb hk ih
  | obj lo hi p v cs ho hb hk hp hc ih => exact fmt_obj lo hi p v cs ho hb hk (fun c hm => (hc c hm).form) ih
/-- A text's own form, or nothing. -/
def formS (s : ByteArray) : ByteArray := match parseS s with | .ok x _ => ⟨(fmtN x).toArray⟩ | _ => ⟨#[]⟩
/-- What a function answers that parses first: its value, or the zero value and the error. -/
def ErrR (A : Nat → Addr) (lo : Nat) (r : PR Nd) (ok zero : Value) (e : Ending) (w' : World) : Prop := match r with
  | .ok _ _ => e = .returned (.tuple #[ok, .nilIface])
  | .err k pl => ∃ g, lo ≤ g ∧ e = .returned (.tuple #[zero, .iface 69 (.pointer (some ⟨g, 0, none⟩))]) ∧ AtB (pl : Int) (.iface 237 (.pointer (some (A k)))) g w'
  | .out => False
theorem parse_len {s : ByteArray} {x : Nd} {q : Nat} (hs : s.size ≤ 4194304) (h : parseS s = .ok x q) : (fmtN x).length ≤ 140737488355328 := by
  unfold parseS at h
  by_cases h0 : (someS s).2.1 = 0
  · rw [if_pos h0] at h
    obtain ⟨h1, h2⟩ := parse_pV h
    have hO := some_ok (by omega) h0
    obtain ⟨hu, hch, _⟩ := some_chain h0
    have hv0 := (utfE_brk s).1 hu
    have hbd := chain_bd _ 0 hv0 (Nat.zero_le _) hch
    have hlen := chain_len _ 0 hv0 (Nat.zero_le _) hch
    have ht : ∀ T ∈ (someS s).1, T.text.size ≤ s.size := fun T hT => by
      obtain ⟨h1, h2, h3, h4, h5, h6⟩ := hbd T hT
      have h7 := one_fr (by omega) h4 h6
      have := h7.2.2.2.2.1
      omega
    have := (p_len (s := s) (ts := (someS s).1) (m := s.size) (M := 6 * s.size + 8) (Nat.le_refl _) (textT_le ht) (wordT_le (Nat.le_refl _)) _).1 _ _ _ _ h1
    rw [h2] at this
    have h3 := Nat.mul_le_mul (show (someS s).1.length ≤ 4194304 by omega) (show 6 * s.size + 8 ≤ 25165832 by omega)
    omega
  · rw [if_neg h0] at h; cases h
theorem parse_small {s : ByteArray} {x : Nd} {q : Nat} (hs : s.size ≤ 3518437208882) (h : parseS s = .ok x q) : allT smallT x := by
  unfold parseS at h
  by_cases h0 : (someS s).2.1 = 0
  · rw [if_pos h0] at h
    obtain ⟨h1, h2⟩ := parse_pV h
    obtain ⟨hu, hch, _⟩ := some_chain h0
    have hv0 := (utfE_brk s).1 hu
    have hbd := chain_bd _ 0 hv0 (Nat.zero_le _) hch
    have ht : ∀ T ∈ (someS s).1, T.text.size ≤ s.size := fun T hT => by
      obtain ⟨h1, h2, h3, h4, h5, h6⟩ := hbd T hT
      have h7 := one_fr (by omega) h4 h6
      have := h7.2.2.2.2.1
      omega
    exact (p_all (P := smallT) (fun p _ => Nat.le_trans (textT_le ht p) hs) _).1 _ _ _ _ h1
  · rw [if_neg h0] at h; cases h
set_option maxHeartbeats 1000000 in
set_option maxRecDepth 100000 in
theorem Format_len {A : Nat → Addr} {B : Nat} (s : ByteArray) (w : World) (hE : Env A B SVN w) (hs : s.size ≤ 3518437208882) (hL : ∀ x q, parseS s = .ok x q → (fmtN x).length ≤ 140737488355328) :
    Calls Tryz.prog 15 #[.string s] w fun e w' => ErrR A w.heap.size (parseS s) (.string (formS s)) (.string ⟨#[]⟩) e w' ∧ Below w.heap.size w w' := by
  have P := Lib.hid (fun w hE => Parse_calls (A := A) (B := B) s w hE (by omega))
  have hlen := Lib.hid hL
  clear hL
  have hsm := Lib.hid (fun x q => parse_small (s := s) (x := x) (q := q) (by omega))
  have hf : formS s = match parseS s with | .ok x _ => ⟨(fmtN x).toArray⟩ | _ => ⟨#[]⟩ := rfl
  have hBw := hE.hB
  replace hE := Lib.hid hE
  generalize formS s = F at *
  generalize parseS s = R at *
  cases R with
  | out =>
    replace hf := Lib.hid hf
    go_enter Tryz.func15, Tryz.ntmps15
    (go_wp2_with fail; repeat (any_goals (go_quiet (fail); go_wp2_with fail)))
    refine (P.out _ (hE.out.next (by repeat (first | assumption | exact Below.refl _ _ | apply Below.drew | apply below_drewN | apply balloc | (refine Below.setCell ?_ (by first | omega | (simp <;> omega)) _))))).mono ?_
    rintro e w1 ⟨hr, hb⟩
    exact hr.elim
  | err k pl =>
    replace hf := Lib.hid hf
    go_enter Tryz.func15, Tryz.ntmps15
    (go_wp2_with fail; repeat (any_goals (go_quiet (fail); go_wp2_with fail)))
    refine (P.out _ (hE.out.next (by repeat (first | assumption | exact Below.refl _ _ | apply Below.drew | apply below_drewN | apply balloc | (refine Below.setCell ?_ (by first | omega | (simp <;> omega)) _))))).mono ?_
    rintro e w1 ⟨⟨g, hg, rfl, hat⟩, hb⟩
    have hb1 : Below w.heap.size w w1 := bcall (by repeat (first | assumption | exact Below.refl _ _ | apply Below.drew | apply below_drewN | apply balloc | (refine Below.setCell ?_ (by first | omega | (simp <;> omega)) _))) hb
    replace hat := Lib.hid hat
    (go_wp2_with fail; repeat (any_goals (go_quiet (fail); go_wp2_with fail)))
    go_ret2
    exact ⟨⟨g, hg, rfl, hat.out⟩, hb1⟩
  | ok x q =>
    have hlen := Lib.hid (hlen.out x q rfl)
    have hsm := Lib.hid (hsm.out x q rfl)
    replace hf := Lib.hid hf
    go_enter Tryz.func15, Tryz.ntmps15
    (go_wp2_with fail; repeat (any_goals (go_quiet (fail); go_wp2_with fail)))
    refine (P.out _ (hE.out.next (by repeat (first | assumption | exact Below.refl _ _ | apply Below.drew | apply below_drewN | apply balloc | (refine Below.setCell ?_ (by first | omega | (simp <;> omega)) _))))).mono ?_
    rintro e w1 ⟨⟨u, rfl, hN⟩, hb⟩
    have hb1 : Below w.heap.size w w1 := bcall (by repeat (first | assumption | exact Below.refl _ _ | apply Below.drew | apply below_drewN | apply balloc | (refine Below.setCell ?_ (by first | omega | (simp <;> omega)) _))) hb
    have hz := hb1.size
    obtain ⟨ut, ua, rfl⟩ := hN.form
    have FC := Lib.hid (format_calls (A := A) (B := B) hN)
    replace hN := Lib.hid hN
    go_wp2_with fail
    refine (FC.out w1 w1.heap.size _ [] (fun _ _ _ => rfl) ((hE.out.next hb1).sub (by decide)) (Nat.le_refl _) (Nat.le_refl _) (by omega) (OwnB.nil _ _) (by have := hlen.out; simpa using this) hsm.out).mono ?_
    rintro e w2 ⟨v', rfl, ho, hF⟩
    have hcv := conv_own ho
    rw [List.nil_append, ← hf.out] at hcv
    have hb2 : Below w.heap.size w w2 := hb1.trans (hF.bel.mono hz)
    clear ho hF
    go_wp2_with fail
    go_ret2
    exact ⟨rfl, hb2⟩
theorem Format_calls {A : Nat → Addr} {B : Nat} (s : ByteArray) (w : World) (hE : Env A B SVN w) (hs : s.size ≤ 4194304) :
    Calls Tryz.prog 15 #[.string s] w fun e w' => ErrR A w.heap.size (parseS s) (.string (formS s)) (.string ⟨#[]⟩) e w' ∧ Below w.heap.size w w' := Format_len s w hE (by omega) (fun _ _ h => parse_len hs h)

end Go.Proofs.YtibopkodoidjoaaGreatDoor

/- The statements of chapter 18: is, objects; is whole. -/
namespace Go.Proofs.YtibopkodoidjoaaGreatDoor
open Go Go.RowKit

theorem cell_in {w : World} {g j : Nat} {v : Value} (h : w.cell? ⟨g, j, none⟩ = some v) : g < w.heap.size := by
  rcases Nat.lt_or_ge g w.heap.size with h1 | h1
  · exact h1
  · simp [World.cell?, Array.getElem?_eq_none h1] at h
theorem cell_b {w w' : World} {g j : Nat} {v : Value} (h : w.cell? ⟨g, j, none⟩ = some v) (hb : Below w.heap.size w w') : w'.cell? ⟨g, j, none⟩ = some v := cell_next h (cell_in h) hb
set_option maxHeartbeats 8000000 in
set_option maxRecDepth 100000 in
theorem is_obj {w0 : World} (lo hi lo2 hi2 P : Nat) (vr rv rk rp : Value) (cs : List Kid) (rcs : List RKid) (hr : w0.ownsRow lo 103 3 vr cs.length (cs.flatMap memC)) (hb0 : ∀ k, vr.ownBlock = some k → k < hi) (hk : ∀ c ∈ cs, lo ≤ c.l ∧ c.h ≤ hi)
    (hR : R3 lo2 w0 rv rk rp rcs) (hb2 : ∀ k, rv.ownBlock = some k → k < hi2) (hb3 : ∀ k, rk.ownBlock = some k → k < hi2) (hb4 : ∀ k, rp.ownBlock = some k → k < hi2) (hk2 : ∀ c ∈ rcs, c.fits lo2 hi2) (hlen : rcs.length = cs.length)
    (hform : ∀ c ∈ cs, ∃ t a, c.u = .iface t a) (hform2 : ∀ c ∈ rcs, ∃ m p f t vi vk vp, c.u = rdC m p f t vi vk vp ∧ isSl vi ∧ isSl vk ∧ isSl vp)
    (hsame : ∀ (j : Nat) (c : Kid) (rc : RKid), cs[j]? = some c → rcs[j]? = some rc → c.key = rc.key ∧ c.pl = rc.pl)
    (ih : ∀ (j : Nat) (c : Kid) (rc : RKid), cs[j]? = some c → rcs[j]? = some rc → IsC w0 c.l c.h rc.l rc.h c.u rc.u) :
    IsC w0 lo hi lo2 hi2 (.iface 101 (.agg #[.int .i64 (P : Int), vr])) (rdC 5 P false noS rv rk rp) := by
  intro w hw hw2 hh hh2
  obtain ⟨m, hm⟩ : ∃ m, m = cs.length := ⟨_, rfl⟩
  have hr2 := hR.i
  have hrk := hR.k
  have hrp := hR.p
  rw [hlen] at hr2 hrk hrp
  rw [← hm] at hr hr2 hrk hrp hlen
  have hl7 : ∀ c ∈ rcs, c.u.length = 7 := fun c hc => by
    obtain ⟨_, _, _, _, _, _, _, h, _⟩ := hform2 c hc
    rw [h]; rfl
  obtain ⟨va, vc, rfl⟩ := rowForm hr
  obtain ⟨ia, ic, rfl⟩ := rowForm hr2
  obtain ⟨ka, kc, rfl⟩ := rowForm hrk
  obtain ⟨pa, pc, rfl⟩ := rowForm hrp
  have hnm : m ≤ maxLen := by
    rcases rowForm2 hr with ⟨h, _⟩ | ⟨g, cap, h, _, _, h1, h2⟩
    · omega
    · omega
  unfold maxLen at hnm
  have hnI : (m : Int) ≤ 9223372036854775807 := by omega
  have hr1 := Lib.hid (ownsRow_heap hr fun k e => hw k (hr.lt k e).1 (hb0 k e))
  have hr3 := Lib.hid (ownsRow_heap hr2 fun k e => hw2 k (hr2.lt k e).1 (hb2 k e))
  have hrk3 := Lib.hid (ownsRow_heap hrk fun k e => hw2 k (hrk.lt k e).1 (hb3 k e))
  have hrp3 := Lib.hid (ownsRow_heap hrp fun k e => hw2 k (hrp.lt k e).1 (hb4 k e))
  clear hR hr2 hrk hrp hr
  replace hm := Lib.hid hm
  replace hlen := Lib.hid hlen
  replace hw := Lib.hid hw
  replace hw2 := Lib.hid hw2
  rw [rdC_arr]
  have T1 := Lib.hid (fun w => At_calls (P : Int) w)
  go_enter Tryz.func12, Tryz.ntmps12
  go_upto_region 1 with fail
  have hB0 : BoxR w.heap.size #[.int .i64 5, .int .i64 (P : Int), .bool false, .string noS, .slice ia m ic, .slice ka m kc, .slice pa m pc] (w.alloc (.cells #[.int .i64 5, .int .i64 (P : Int), .bool false, .string noS, .slice ia m ic, .slice ka m kc, .slice pa m pc] 33 (0, 0))) := heap_alloc_new _ _
  go_region_held3 (fun w' => w'.cell? ⟨w.heap.size, 1, none⟩ = some (.int .i64 (P : Int)) ∧ BoxR w.heap.size #[.int .i64 5, .int .i64 (P : Int), .bool false, .string noS, .slice ia m ic, .slice ka m kc, .slice pa m pc] w') (first | exact BoxR.two ‹_› | exact BoxR.two (BoxR.drew hB0)) ((go_at_call 174; refine (T1.out _).mono ?_; rintro e w8 ⟨rfl, hb⟩; have hB8 := BoxR.next (BoxR.drew hB0) hb; have hb8 : Below w.heap.size w w8 := bcall (by repeat (first | assumption | exact Below.refl _ _ | apply Below.drew | apply below_drewN | apply balloc | (refine Below.setCell ?_ (by first | omega | (simp <;> omega)) _))) hb; clear hb))
  obtain ⟨c0, c2, c3, c4, c5, c6⟩ := hB8.all
  have hlt8 := ltB hB8
  replace hB8 := Lib.hid hB8
  go_wp2_with fail
  go_loopw [120] (fun v120 wr => ∃ k : Nat, k ≤ m ∧ v120 = .int .i64 (k : Int) ∧ Hid (BoxR w.heap.size #[.int .i64 5, .int .i64 (P : Int), .bool false, .string noS, .slice ia m ic, .slice ka m kc, .slice pa m pc] wr) ∧ Below w.heap.size w wr) (fun v _ => m - (intOf v).toNat)
  case atStart => exact ⟨0, Nat.zero_le _, rfl, Lib.hid (hB8.out.next (balloc (Below.refl _ _))), (by repeat (first | assumption | exact Below.refl _ _ | apply Below.drew | apply below_drewN | apply balloc | (refine Below.setCell ?_ (by first | omega | (simp <;> omega)) _)))⟩
  case round =>
    obtain ⟨k, hkn, rfl, hBr, hbr⟩ := hrel
    clear c0 c2 c3 c4 c5 c6 hb8 hB8
    by_cases hlt : k < m
    · have hltI : (k : Int) < (m : Int) := by omega
      obtain ⟨c, hc⟩ : ∃ c, cs[k]? = some c := ⟨cs[k]'(by rw [← hm.out]; exact hlt), List.getElem?_eq_getElem _⟩
      obtain ⟨rc, hrc⟩ : ∃ rc, rcs[k]? = some rc := ⟨rcs[k]'(by rw [hlen.out]; exact hlt), List.getElem?_eq_getElem _⟩
      have hcm := List.mem_of_getElem? hc
      have hrm := List.mem_of_getElem? hrc
      obtain ⟨g, rfl⟩ : ∃ g, va = some ⟨g, 0, none⟩ := by
        rcases rowForm2 hr1.out with ⟨h, _⟩ | ⟨g, cap, h, _⟩
        · omega
        · cases h; exact ⟨g, rfl⟩
      obtain ⟨ig, rfl⟩ : ∃ g, ia = some ⟨g, 0, none⟩ := by
        rcases rowForm2 hr3.out with ⟨h, _⟩ | ⟨g, cap, h, _⟩
        · omega
        · cases h; exact ⟨g, rfl⟩
      obtain ⟨kg, rfl⟩ : ∃ g, ka = some ⟨g, 0, none⟩ := by
        rcases rowForm2 hrk3.out with ⟨h, _⟩ | ⟨g, cap, h, _⟩
        · omega
        · cases h; exact ⟨g, rfl⟩
      obtain ⟨pg, rfl⟩ : ∃ g, pa = some ⟨g, 0, none⟩ := by
        rcases rowForm2 hrp3.out with ⟨h, _⟩ | ⟨g, cap, h, _⟩
        · omega
        · cases h; exact ⟨g, rfl⟩
      obtain ⟨q0, q1, q2⟩ := rowMem (row_below hr1.out hbr) hc
      obtain ⟨ut, ua, hu⟩ := hform c hcm
      obtain ⟨m2, p2, f2, t2, vi2, vk2, vp2, hu2, ⟨a1, n1, c1, rfl⟩, ⟨a2, n2, c2, rfl⟩, ⟨a3, n3, c3, rfl⟩⟩ := hform2 rc hrm
      have hq : ∀ i u, i < 7 → rc.u[i]? = some u → wr.cell? ⟨ig, k * 7 + i, none⟩ = some u := fun i u hi h => rowCells (row_below hr3.out hbr) ((flat7 rcs k rc i hl7 hrc hi).trans h)
      rw [hu2] at hq
      have s0 : wr.cell? ⟨ig, k * 7, none⟩ = _ := hq 0 _ (by decide) rfl
      have s1 := hq 1 _ (by decide) rfl
      have s2 := hq 2 _ (by decide) rfl
      have s3 := hq 3 _ (by decide) rfl
      have s4 := hq 4 _ (by decide) rfl
      have s5 := hq 5 _ (by decide) rfl
      have s6 := hq 6 _ (by decide) rfl
      clear hq
      have sk := rowCells (row_below hrk3.out hbr) (j := k) (u := .string rc.key) (by rw [List.getElem?_map, hrc]; rfl)
      have sp := rowCells (row_below hrp3.out hbr) (j := k) (u := .int .i64 (rc.pl : Int)) (by rw [List.getElem?_map, hrc]; rfl)
      obtain ⟨hkey, hpl⟩ := hsame k c rc hc hrc
      rw [← hkey] at sk
      rw [← hpl] at sp
      have b4 := cellB hBr.out 4 rfl
      have b5 := cellB hBr.out 5 rfl
      have b6 := cellB hBr.out 6 rfl
      have hcf := hk c hcm
      have hrf := hk2 rc hrm
      have IC := fun w' (hB : Below w.heap.size w w') => ih k c rc hc hrc w' (fun j a d => (hB.block j (by have := hcf.2; omega)).trans (hw.out j (Nat.le_trans hcf.1 a) (Nat.lt_of_lt_of_le d hcf.2))) (fun j a d => (hB.block j (by have := hrf.2.2; omega)).trans (hw2.out j (Nat.le_trans hrf.1 a) (Nat.lt_of_lt_of_le d hrf.2.2))) (by have := hcf.2; have := hB.size; omega) (by have := hrf.2.2; have := hB.size; omega)
      rw [hu2, hu, rdC_arr] at IC
      replace IC := Lib.hid IC
      rw [hu] at q2
      generalize c.key = key at *
      generalize c.pl = pl at *
      replace hu := Lib.hid hu
      replace hu2 := Lib.hid hu2
      replace hc := Lib.hid hc
      replace hrc := Lib.hid hrc
      replace hkey := Lib.hid hkey
      replace hpl := Lib.hid hpl
      go_upto_region 34 with fail
      have hbA : Below wr.heap.size wr (wr.alloc (.cells #[.string key, .int .i64 (pl : Int), .iface ut ua] 103 (0, 0))) := balloc (Below.refl _ _)
      have hmA := heap_alloc_new wr (.cells #[.string key, .int .i64 (pl : Int), .iface ut ua] 103 (0, 0))
      obtain ⟨mg, hmg⟩ : ∃ mg, mg = wr.heap.size := ⟨_, rfl⟩
      rw [← hmg] at hmA ⊢
      generalize wr.alloc (.cells #[.string key, .int .i64 (pl : Int), .iface ut ua] 103 (0, 0)) = wA at hbA hmA ⊢
      have oh : Hid (∀ w', Below wA.heap.size wA w' → (w'.cell? ⟨mg, 0, none⟩ = some (.string key) ∧ w'.cell? ⟨mg, 1, none⟩ = some (.int .i64 (pl : Int)) ∧ w'.cell? ⟨mg, 2, none⟩ = some (.iface ut ua) ∧ w'.cell? ⟨w.heap.size, 4, none⟩ = some (.slice (some ⟨ig, 0, none⟩) m ic) ∧ w'.cell? ⟨w.heap.size, 5, none⟩ = some (.slice (some ⟨kg, 0, none⟩) m kc) ∧ w'.cell? ⟨w.heap.size, 6, none⟩ = some (.slice (some ⟨pg, 0, none⟩) m pc) ∧ w'.cell? ⟨kg, k, none⟩ = some (.string key) ∧ w'.cell? ⟨pg, k, none⟩ = some (.int .i64 (pl : Int)) ∧ w'.cell? ⟨ig, k * 7, none⟩ = some (.int .i64 (m2 : Int)) ∧ w'.cell? ⟨ig, k * 7 + 1, none⟩ = some (.int .i64 (p2 : Int)) ∧ w'.cell? ⟨ig, k * 7 + 2, none⟩ = some (.bool f2) ∧ w'.cell? ⟨ig, k * 7 + 3, none⟩ = some (.string t2) ∧ w'.cell? ⟨ig, k * 7 + 4, none⟩ = some (.slice a1 n1 c1) ∧ w'.cell? ⟨ig, k * 7 + 5, none⟩ = some (.slice a2 n2 c2) ∧ w'.cell? ⟨ig, k * 7 + 6, none⟩ = some (.slice a3 n3 c3) ∧ Below wA.heap.size wA w')) := Lib.hid (fun w' hb => ⟨cell_b (cellB hmA 0 rfl) hb, cell_b (cellB hmA 1 rfl) hb, cell_b (cellB hmA 2 rfl) hb, cell_b (cell_b b4 hbA) hb, cell_b (cell_b b5 hbA) hb, cell_b (cell_b b6 hbA) hb, cell_b (cell_b sk hbA) hb, cell_b (cell_b sp hbA) hb, cell_b (cell_b s0 hbA) hb, cell_b (cell_b s1 hbA) hb, cell_b (cell_b s2 hbA) hb, cell_b (cell_b s3 hbA) hb, cell_b (cell_b s4 hbA) hb, cell_b (cell_b s5 hbA) hb, cell_b (cell_b s6 hbA) hb, hb⟩)
      have hBA := Lib.hid (hBr.out.next hbA)
      have hwA : Below w.heap.size w wA := bcall hbr hbA
      replace hmg := Lib.hid hmg
      replace hmA := Lib.hid hmA
      clear q0 q1 q2 s0 s1 s2 s3 s4 s5 s6 sk sp b4 b5 b6 hBr hbA hbr
      go_region_held3 (fun w' => w'.cell? ⟨mg, 0, none⟩ = some (.string key) ∧ w'.cell? ⟨mg, 1, none⟩ = some (.int .i64 (pl : Int)) ∧ w'.cell? ⟨mg, 2, none⟩ = some (.iface ut ua) ∧ w'.cell? ⟨w.heap.size, 4, none⟩ = some (.slice (some ⟨ig, 0, none⟩) m ic) ∧ w'.cell? ⟨w.heap.size, 5, none⟩ = some (.slice (some ⟨kg, 0, none⟩) m kc) ∧ w'.cell? ⟨w.heap.size, 6, none⟩ = some (.slice (some ⟨pg, 0, none⟩) m pc) ∧ w'.cell? ⟨kg, k, none⟩ = some (.string key) ∧ w'.cell? ⟨pg, k, none⟩ = some (.int .i64 (pl : Int)) ∧ w'.cell? ⟨ig, k * 7, none⟩ = some (.int .i64 (m2 : Int)) ∧ w'.cell? ⟨ig, k * 7 + 1, none⟩ = some (.int .i64 (p2 : Int)) ∧ w'.cell? ⟨ig, k * 7 + 2, none⟩ = some (.bool f2) ∧ w'.cell? ⟨ig, k * 7 + 3, none⟩ = some (.string t2) ∧ w'.cell? ⟨ig, k * 7 + 4, none⟩ = some (.slice a1 n1 c1) ∧ w'.cell? ⟨ig, k * 7 + 5, none⟩ = some (.slice a2 n2 c2) ∧ w'.cell? ⟨ig, k * 7 + 6, none⟩ = some (.slice a3 n3 c3) ∧ Below wA.heap.size wA w') (first | exact oh.out _ ‹_› | exact oh.out _ (Below.drew (Below.refl _ _))) ((go_at_call 12; refine (IC.out _ (by first | exact hwA | exact Below.drew hwA)).mono ?_; rintro e w9 ⟨rfl, hb⟩; have hb9 : Below wA.heap.size wA w9 := bcall (Below.drew (Below.refl _ _)) hb; clear hb))
      have hBr9 := Lib.hid (hBA.out.next hb9)
      have hbr9 : Below w.heap.size w w9 := bcall hwA hb9
      clear oh IC
      go_wp2_with fail
      go_roundw
      case measure => simp [intOf]; omega
      case rel => exact ⟨k + 1, by omega, by go_num, hBr9, hbr9⟩
    · obtain rfl : m = k := by omega
      have hlt' : ¬ (m : Int) < (m : Int) := by omega
      go_wp2_with fail
      go_ret
      exact ⟨rfl, hbr⟩
theorem is_calls {w0 : World} {lo hi : Nat} {u : Value} {x : Nd} (h : OwnN w0 lo hi u x) : ∀ {lo2 hi2 : Nat} {c : List Value}, OwnR w0 lo2 hi2 c x → IsC w0 lo hi lo2 hi2 u c := by
  induction h with
  | null lo hi p => intro lo2 hi2 c h2; cases h2; exact fun w _ _ _ _ => is_null p w
  | flag lo hi p b => intro lo2 hi2 c h2; cases h2; exact fun w _ _ _ _ => is_flag p b w
  | num lo hi p t => intro lo2 hi2 c h2; cases h2; exact fun w _ _ _ _ => is_num p t w
  | text lo hi p t => intro lo2 hi2 c h2; cases h2; exact fun w _ _ _ _ => is_text p t w
  | lst lo hi p v cs ho hb hk hp hc ih =>
    intro lo2 hi2 c h2
    generalize hxs : cs.map Kid.x = xs at h2
    cases h2 with
    | lst _ _ _ rv rcs ho2 hb2 hk2 hc2 =>
      have hlen : rcs.length = cs.length := by have := congrArg List.length hxs; simpa using this.symm
      refine is_lst lo hi lo2 hi2 p v rv cs rcs ho hb (fun c hm => ⟨(hk c hm).1, (hk c hm).2.2.1⟩) ho2 hb2 hk2 hlen (fun c hm => (hc c hm).form) (fun c hm => (hc2 c hm).form) (fun j c rc h1 h2 => ?_)
      have hx : c.x = rc.x := by
        have := congrArg (fun l => l[j]?) hxs
        simpa [List.getElem?_map, h1, h2] using this
      exact ih c (List.mem_of_getElem? h1) (hx ▸ hc2 rc (List.mem_of_getElem? h2))
  | obj lo hi p v cs ho hb hk hp hc ih =>
    intro lo2 hi2 c h2
    generalize hxs : cs.map Kid.mem = xs at h2
    cases h2 with
    | obj _ _ _ rv rk rp rcs ho2 hb2 ho3 hb3 ho4 hb4 hk2 hc2 =>
      have hlen : rcs.length = cs.length := by have := congrArg List.length hxs; simpa using this.symm
      have hx : ∀ (j : Nat) (c : Kid) (rc : RKid), cs[j]? = some c → rcs[j]? = some rc → c.key = rc.key ∧ c.pl = rc.pl ∧ c.x = rc.x := fun j c rc h1 h2 => by
        have := congrArg (fun l => l[j]?) hxs
        simpa [List.getElem?_map, h1, h2, Kid.mem, RKid.mem] using this
      refine is_obj lo hi lo2 hi2 p v rv rk rp cs rcs ho hb (fun c hm => ⟨(hk c hm).1, (hk c hm).2.2.1⟩) ⟨ho2, ho3, ho4⟩ hb2 hb3 hb4 hk2 hlen (fun c hm => (hc c hm).form) (fun c hm => (hc2 c hm).form) (fun j c rc h1 h2 => ⟨(hx j c rc h1 h2).1, (hx j c rc h1 h2).2.1⟩) (fun j c rc h1 h2 => ?_)
      exact ih c (List.mem_of_getElem? h1) ((hx j c rc h1 h2).2.2 ▸ hc2 rc (List.mem_of_getElem? h2))

end Go.Proofs.YtibopkodoidjoaaGreatDoor
