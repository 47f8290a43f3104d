/- ScanWhole: the walk. -/
import Derived.Test.YtnldhgkmbighkaaDoorFixed17
import Derived.Test.YtnldhgkmbighkaaDoorLay
namespace Go.Proofs.YtnldhgkmbighkaaDoor
open Go Go.RowKit

set_option maxHeartbeats 2000000 in
set_option maxRecDepth 100000 in
theorem lawBlank_calls (t : ByteArray) (w : World) (hs : t.size ≤ 1048576) (hb : ∀ j, j < t.size → blankN (bAt t j) = true) :
    Calls Tryd.prog 18 #[.string t] w fun e w' => e = .returned (.bool true) ∧ w = w' := by
  have hs' : (t.size : Int) ≤ 1048576 := by omega
  replace hb := Lib.hid hb
  go_enter Tryd.func18, Tryd.ntmps18
  (go_wp2_with fail; repeat (any_goals (go_quiet (fail); go_wp2_with fail)))
  go_loop [3] (fun v => ∃ k : Nat, k ≤ t.size ∧ v = .int .i64 (k : Int)) (fun v => t.size - (intOf v).toNat)
  case atStart => exact ⟨0, Nat.zero_le _, rfl⟩
  case round =>
    obtain ⟨k, hk, rfl⟩ := hrel
    have hx := byte_at t k
    by_cases hlt : k < t.size
    · have hlt' : (k : Int) < (t.size : Int) := by omega
      have h4 : bAt t k = 32 ∨ bAt t k = 9 ∨ bAt t k = 10 ∨ bAt t k = 13 := by
        have := hb.out k hlt
        simp only [blankN, Bool.or_eq_true, beq_iff_eq] at this; omega
      generalize bAt t k = c at *
      rcases h4 with rfl | rfl | rfl | rfl
      all_goals
        (go_wp2_with fail; repeat (any_goals (go_quiet (fail); go_wp2_with fail)))
        go_round
        case rel => exact ⟨k + 1, by omega, by go_num⟩
        case measure => simp [intOf]; omega
    · (go_wp2_with fail; repeat (any_goals (go_quiet (fail); go_wp2_with fail)))
      go_ret
      exact ⟨rfl, rfl⟩
theorem ext_blank {s : ByteArray} {p k : Nat} (hk : k ≤ s.size) (h : Blk s p k) : ∀ j, j < (s.extract p k).size → blankN (bAt (s.extract p k) j) = true := by
  intro j hj
  have hz : (s.extract p k).size = k - p := by rw [ByteArray.size_extract]; omega
  rw [bAt_ext s hk (by omega)]
  exact h _ (by omega) (by omega)
set_option maxHeartbeats 8000000 in
set_option maxRecDepth 100000 in
theorem ScanWhole_calls {A : Nat → Addr} {B : Nat} (s : ByteArray) (w : World) (hs : s.size ≤ 1048576) (hE : Env A B SVN w) :
    Calls Tryd.prog 5 #[.string s] w fun e w' => e = .returned (.bool true) ∧ Below w.heap.size w w' := by
  have hs' : (s.size : Int) ≤ 1048576 := by omega
  have neq := neqTk_same
  have S := Lib.hid (fun w hE => Scan_calls (A := A) (B := B) s w hE (by omega))
  have hal := Lib.hid (fun h0 T hT => tok_alone (s := s) h0 (T := T) hT)
  have hch := Lib.hid (fun h0 => some_chain (s := s) h0)
  generalize hR : someS s = R at *
  replace hR := Lib.hid hR
  replace hs := Lib.hid hs
  go_enter Tryd.func5, Tryd.ntmps5
  (go_wp2_with fail; repeat (any_goals (go_quiet (fail); go_wp2_with fail)))
  refine (fixed17 _ (hE.next (by repeat (first | assumption | exact Below.refl _ _ | apply Below.drew | apply below_drewN | apply balloc | (refine Below.setCell ?_ (by first | omega | (simp <;> omega)) _))))).mono ?_
  rintro e w1 ⟨rfl, hb⟩
  have hb1 : Below w.heap.size w w1 := bcall (by repeat (first | assumption | exact Below.refl _ _ | apply Below.drew | apply below_drewN | apply balloc | (refine Below.setCell ?_ (by first | omega | (simp <;> omega)) _))) hb
  clear hb
  (go_wp2_with fail; repeat (any_goals (go_quiet (fail); go_wp2_with fail)))
  refine (S.out _ ((hE.next hb1).sub (by decide))).mono ?_
  rintro e w2 ⟨hr, hb⟩
  have hb2 : Below w.heap.size w w2 := bcall hb1 hb
  have hz12 := hb.size
  clear hb S
  unfold ScanR at hr
  by_cases h0 : R.2.1 = 0
  · rw [if_pos h0] at hr
    obtain ⟨v1, rfl, ho1⟩ := hr
    have ho1 : OwnT w2 w1.heap.size v1 R.1 := ho1
    obtain ⟨hu, hchain, _⟩ := hch.out h0
    have hv0 := Lib.hid ((utfE_brk s).1 hu)
    replace hchain := Lib.hid hchain
    replace hal := Lib.hid (hal.out h0)
    replace hu := Lib.hid hu
    replace h0 := Lib.hid h0
    clear hch
    by_cases hbig : s.size > 5000
    · have hbig' : (5000 : Int) < (s.size : Int) := by omega
      replace hbig := Lib.hid hbig
      replace ho1 := Lib.hid ho1
      (go_wp2_with fail; repeat (any_goals (go_quiet (fail); go_wp2_with fail)))
      go_ret
      exact ⟨rfl, hb2⟩
    have hbig' : ¬ (5000 : Int) < (s.size : Int) := by omega
    replace hbig := Lib.hid hbig
    rcases ho1.form with ⟨hnil, rfl⟩ | ⟨g, cap, rfl, hbg, hgl, hnl, hcm⟩
    · have hbl : Hid (Blk s 0 s.size) := Lib.hid (by have := hchain.out; rw [hnil] at this; exact this.2)
      have C := Lib.hid (fun w => lawBlank_calls s w hs.out (fun j hj => hbl.out j (Nat.zero_le _) hj))
      replace ho1 := Lib.hid ho1
      replace hnil := Lib.hid hnil
      (go_wp2_with fail; repeat (any_goals (go_quiet (fail); go_wp2_with fail)))
      go_loopw [33, 5] (fun v33 v5 wr => v33 = .int .i64 0 ∧ v5 = .int .i64 0 ∧ Below w.heap.size w wr) (fun _ _ _ => 0)
      case atStart => exact ⟨rfl, rfl, hb2⟩
      case round =>
        obtain ⟨rfl, rfl, hB⟩ := hrel
        (go_wp2_with fail; repeat (any_goals (go_quiet (fail); go_wp2_with fail)))
        refine (C.out _).mono ?_
        rintro e w3 ⟨rfl, rfl⟩
        (go_wp2_with fail; repeat (any_goals (go_quiet (fail); go_wp2_with fail)))
        go_ret
        exact ⟨rfl, hB⟩
    · obtain ⟨n, hn⟩ : ∃ n, n = R.1.length := ⟨_, rfl⟩
      rw [← hn] at hnl ho1 ⊢
      unfold maxLen at hcm
      have hn1 : (n : Int) ≤ 9223372036854775807 := by omega
      replace hn := Lib.hid hn
      replace ho1 := Lib.hid ho1
      (go_wp2_with fail; repeat (any_goals (go_quiet (fail); go_wp2_with fail)))
      go_loopw [33, 5] (fun v33 v5 wr => ∃ k p : Nat, k ≤ n ∧ v33 = .int .i64 (k : Int) ∧ v5 = .int .i64 (p : Int) ∧ Hid (p ≤ s.size ∧ brkAt s p = s.size ∧ Chain s p (R.1.drop k)) ∧ Below w2.heap.size w2 wr) (fun v _ _ => n - (intOf v).toNat)
      case atStart => exact ⟨0, 0, Nat.zero_le _, rfl, rfl, Lib.hid ⟨Nat.zero_le _, hv0.out, hchain.out⟩, Below.refl _ _⟩
      case round =>
        obtain ⟨k, p, hk, rfl, rfl, H, hB⟩ := hrel
        have hBw : Below w.heap.size w wr := bcall hb2 hB
        have hzr := hB.size
        have hp := H.out.1
        by_cases hlt : k < n
        · obtain ⟨T, hT⟩ : ∃ T, R.1[k]? = some T := ⟨R.1[k]'(by rw [← hn.out]; exact hlt), List.getElem?_eq_getElem _⟩
          have hdr : R.1.drop k = T :: R.1.drop (k + 1) := by
            have hkl : k < R.1.length := by rw [← hn.out]; exact hlt
            rw [List.drop_eq_getElem_cons hkl]
            rw [List.getElem?_eq_getElem hkl] at hT
            cases hT; rfl
          obtain ⟨_, hbr, hc⟩ := H.out
          rw [hdr] at hc
          obtain ⟨c1, c2, c3, c4, c5⟩ := hc
          have hbb : brkAt s T.fr = s.size := Low.brk (i := p) ⟨c1, by omega, fun k hk1 hk2 => (blank_ascii (c3 k hk1 hk2)).2⟩ hbr
          have hfr := one_fr c2 hbb c4
          have hft := hfr.2.1
          have hts := hfr.2.2.1
          have C := Lib.hid (fun w => lawBlank_calls (s.extract p T.fr) w (by rw [ByteArray.size_extract]; have := hs.out; omega) (ext_blank (Nat.le_of_lt c2) c3))
          have hmem : T ∈ R.1 := List.mem_of_getElem? hT
          have hsome := Lib.hid (hal.out T hmem)
          have D := Lib.hid (fun w hE => Scan_calls (A := A) (B := B) (s.extract T.fr T.to) w hE (by rw [ByteArray.size_extract]; have := hs.out; omega))
          obtain ⟨y0, y1, y2, y3⟩ := (ho1.out.next hB).at hT
          have hnx := Lib.hid (⟨hts, hfr.2.2.2.1, c5⟩ : T.to ≤ s.size ∧ brkAt s T.to = s.size ∧ Chain s T.to (R.1.drop (k + 1)))
          replace hT := Lib.hid hT
          replace hdr := Lib.hid hdr
          replace hbr := Lib.hid hbr
          replace hbb := Lib.hid hbb
          replace hfr := Lib.hid hfr
          replace c3 := Lib.hid c3
          replace c4 := Lib.hid c4
          replace c5 := Lib.hid c5
          replace hmem := Lib.hid hmem
          (go_wp2_with fail; repeat (any_goals (go_quiet (fail); go_wp2_with fail)))
          refine (C.out _).mono ?_
          rintro e w3 ⟨rfl, rfl⟩
          have hv := heap_alloc_new wr (.cells #[.int .i64 (T.kind : Int), .int .i64 (T.fr : Int), .int .i64 (T.to : Int), .string T.text] 28 (0, 0))
          replace hv := Lib.hid hv
          have hzb : w.heap.size ≤ wr.heap.size := hBw.size
          clear y0 y1 y2 y3
          (go_wp2_with fail; repeat (any_goals (go_quiet (fail); go_wp2_with fail)))
          refine (D.out _ ((hE.next (balloc hBw)).sub (by decide))).mono ?_
          rintro e w4 ⟨hr, hb⟩
          unfold ScanR at hr
          rw [hsome.out, if_pos rfl] at hr
          obtain ⟨v2, rfl, ho2⟩ := hr
          have ho2 : OwnT w4 (wr.heap.size + 1) v2 [⟨T.kind, 0, T.to - T.fr, T.text⟩] := by
            have := ho2
            rw [World.size_alloc] at this
            exact this
          have hv := box_next hv.out hb
          have hb4 : Below w2.heap.size w2 w4 := bcall (balloc hB) hb
          clear hb
          rcases ho2.form with ⟨h, _⟩ | ⟨g2, cap2, rfl, hbg2, hgl2, hnl2, hcm2⟩
          · cases h
          obtain ⟨z0, z1, z2, z3⟩ := ho2.at (j := 0) (T := ⟨T.kind, 0, T.to - T.fr, T.text⟩) rfl
          have z2' : w4.cell? ⟨g2, 0 * 4 + 2, none⟩ = some (.int .i64 ((T.to : Int) - (T.fr : Int))) := by rw [z2, Int.ofNat_sub (by omega)]
          have z1' : w4.cell? ⟨g2, 0 * 4 + 1, none⟩ = some (.int .i64 0) := z1
          have z0' : w4.cell? ⟨g2, 0 * 4, none⟩ = some (.int .i64 (T.kind : Int)) := z0
          have z3' : w4.cell? ⟨g2, 0 * 4 + 3, none⟩ = some (.string T.text) := z3
          clear z0 z1 z2 z3
          have x0 := cellB hv 0 rfl
          have x1 := cellB hv 1 rfl
          have x2 := cellB hv 2 rfl
          have x3 := cellB hv 3 rfl
          simp only [List.length_singleton] at hnl2 ⊢
          simp only [Nat.zero_mul, Nat.zero_add] at z0' z1' z2' z3'
          unfold maxLen at hcm2
          replace hv := Lib.hid hv
          replace ho2 := Lib.hid ho2
          (go_wp2_with fail; repeat (any_goals (go_quiet (fail); go_wp2_with fail)))
          go_roundw
          case measure => simp [intOf]; omega
          case rel => exact ⟨k + 1, T.to, by omega, by go_num, rfl, hnx, by repeat (first | assumption | apply Below.drew | apply below_drewN)⟩
        · have hkn : k = n := by omega
          have hbl : Blk s p s.size := by
            have := H.out.2.2
            rw [hkn, hn.out, List.drop_length] at this
            exact this.2
          have C := Lib.hid (fun w => lawBlank_calls (s.extract p s.size) w (by rw [ByteArray.size_extract]; have := hs.out; omega) (ext_blank (Nat.le_refl _) hbl))
          replace hbl := Lib.hid hbl
          replace hkn := Lib.hid hkn
          (go_wp2_with fail; repeat (any_goals (go_quiet (fail); go_wp2_with fail)))
          refine (C.out _).mono ?_
          rintro e w3 ⟨rfl, rfl⟩
          (go_wp2_with fail; repeat (any_goals (go_quiet (fail); go_wp2_with fail)))
          go_ret
          exact ⟨rfl, hBw⟩
  · rw [if_neg h0] at hr
    obtain ⟨g, hg, rfl, hat⟩ := hr
    replace h0 := Lib.hid h0
    clear hat
    (go_wp2_with fail; repeat (any_goals (go_quiet (fail); go_wp2_with fail)))
    go_ret
    exact ⟨rfl, hb2⟩

end Go.Proofs.YtnldhgkmbighkaaDoor
