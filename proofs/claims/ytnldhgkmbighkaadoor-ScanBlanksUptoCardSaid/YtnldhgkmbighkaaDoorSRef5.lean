/- The reference of chapter 17: quoted. -/
import Derived.Test.YtnldhgkmbighkaaDoorSRef4
import Derived.Test.YtnldhgkmbighkaaDoorBytes
namespace Go.Proofs.YtnldhgkmbighkaaDoor
open Go Go.RowKit

/-- What quoted answers. -/
def rQV (R : Nat × Nat × List UInt8) : Value := if R.1 = 0 then .tuple #[.string ⟨R.2.2.toArray⟩, .int .i64 (R.2.1 : Int), .int .i64 0, .int .i64 0] else .tuple #[.string ⟨#[]⟩, .int .i64 0, .int .i64 (R.1 : Int), .int .i64 (R.2.1 : Int)]
theorem rQV_ok {R : Nat × Nat × List UInt8} {p : Nat} {l : List UInt8} (h : R = (0, p, l)) : rQV R = .tuple #[.string ⟨l.toArray⟩, .int .i64 (p : Int), .int .i64 0, .int .i64 0] := by subst h; unfold rQV; rw [if_pos rfl]
theorem rQV_bad {R : Nat × Nat × List UInt8} {k p : Nat} {l : List UInt8} (h : R = (k + 1, p, l)) : rQV R = .tuple #[.string ⟨#[]⟩, .int .i64 0, .int .i64 ((k + 1 : Nat) : Int), .int .i64 (p : Int)] := by subst h; unfold rQV; rw [if_neg (by simp)]
set_option maxHeartbeats 4000000 in
set_option maxRecDepth 100000 in
theorem rQuoted_calls (s : ByteArray) (i : Nat) (w : World) (hs : s.size ≤ 35184372088830) (hi : i < s.size) :
    Calls Tryd.prog 60 #[.string s, .int .i64 (i : Int)] w fun e w' => e = .returned (rQV (qAt s (i + 1) [])) ∧ Below w.heap.size w w' := by
  have hs' : (s.size : Int) ≤ 35184372088830 := by omega
  have hi' : (i : Int) < (s.size : Int) := by omega
  have C := Lib.hid (fun i w hi => rEscape_calls s i w (by omega) hi)
  obtain ⟨R, hR⟩ : ∃ R, R = qAt s (i + 1) [] := ⟨_, rfl⟩
  rw [← hR]
  replace hR := Lib.hid hR
  replace hs := Lib.hid hs
  replace hi := Lib.hid hi
  go_enter Tryd.func60, Tryd.ntmps60
  (go_wp2_with fail; repeat (any_goals (go_quiet (fail); go_wp2_with fail)))
  go_loopg [1, 8] (s.size + 1) (fun kq v1 v8 w' => ∃ (k : Nat) (l : List UInt8), v1 = .int .i64 (k : Int) ∧ Hid (qAt s k l = R ∧ k ≤ s.size ∧ l.length ≤ k ∧ kq + k ≥ s.size + 1 ∧ OwnB w' w.heap.size v8 l) ∧ Below w.heap.size w w')
  case atStart => exact ⟨i + 1, [], by go_num, Lib.hid ⟨hR.out.symm, hi.out, Nat.zero_le _, by omega, OwnB.nil _ _⟩, (by repeat (first | assumption | exact Below.refl _ _ | apply Below.drew | apply below_drewN | apply balloc | (refine Below.setCell ?_ (by first | omega | (simp <;> omega)) _)))⟩
  case round =>
    obtain ⟨k, l, rfl, H, hB⟩ := hrel
    have hk := H.out.2.1
    have hx := byte_at s k
    have hq := Lib.hid (qAt_eq s k l)
    by_cases hlt : k < s.size
    · have hlt' : (k : Int) < (s.size : Int) := by omega
      have hq2 := hq.out
      rw [if_pos hlt, H.out.1] at hq2
      clear hq
      have hB8 := bAt_lt s k
      by_cases h34 : bAt s k = 34
      · have h34' : ((bAt s k : Int) == 34) = true := by simp; omega
        rw [if_pos h34] at hq2
        have he := Lib.hid (rQV_ok hq2)
        have hcv := conv_own H.out.2.2.2.2
        replace h34 := Lib.hid h34
        replace hq2 := Lib.hid hq2
        replace hlt := Lib.hid hlt
        (go_wp2_with fail; repeat (any_goals (go_quiet (fail); go_wp2_with fail)))
        refine bodyPost_ret (v := .tuple #[.string ⟨l.toArray⟩, .int .i64 ((k : Int) + 1), .int .i64 0, .int .i64 0]) (by simp [results, Tryd.results60, go_sem]) rfl ⟨by rw [he.out]; rfl, (by repeat (first | assumption | exact Below.refl _ _ | apply Below.drew | apply below_drewN | apply balloc | (refine Below.setCell ?_ (by first | omega | (simp <;> omega)) _)))⟩
      · have h34' : ((bAt s k : Int) == 34) = false := by simp; omega
        rw [if_neg h34] at hq2
        replace h34 := Lib.hid h34
        by_cases h32 : bAt s k < 32
        · have h32' : (bAt s k : Int) < 32 := by omega
          rw [if_pos h32] at hq2
          have he := Lib.hid (rQV_bad hq2)
          replace h32 := Lib.hid h32
          replace hq2 := Lib.hid hq2
          replace hlt := Lib.hid hlt
          (go_wp2_with fail; repeat (any_goals (go_quiet (fail); go_wp2_with fail)))
          refine bodyPost_ret (v := .tuple #[.string ⟨#[]⟩, .int .i64 0, .int .i64 2, .int .i64 (k : Int)]) (by simp [results, Tryd.results60, go_sem]) rfl ⟨by rw [he.out]; rfl, (by repeat (first | assumption | exact Below.refl _ _ | apply Below.drew | apply below_drewN | apply balloc | (refine Below.setCell ?_ (by first | omega | (simp <;> omega)) _)))⟩
        · have h32' : ¬ (bAt s k : Int) < 32 := by omega
          rw [if_neg h32] at hq2
          replace h32 := Lib.hid h32
          by_cases h92 : bAt s k = 92
          · have h92' : ((bAt s k : Int) == 92) = true := by simp; omega
            rw [if_pos h92] at hq2
            have D := Lib.hid (fun w => C.out k w hlt)
            clear C
            cases hE : escAt s k with
            | mk e xz =>
              obtain ⟨x, z⟩ := xz
              rw [hE] at hq2
              cases e with
              | zero =>
                rw [if_pos rfl] at hq2
                simp only at hq2
                have hok := escAt_ok h92 (by rw [hE])
                have hen := enc_esc s k h92 (by rw [hE])
                rw [← encN_len] at hen
                rw [hE] at hok hen
                simp only at hok hen
                have hV : rEscV (escAt s k) k = .tuple #[.string (encS x), .int .i64 ((k + z : Nat) : Int), .int .i64 0] := rEscV_ok hE
                replace D : Hid (∀ w, Calls Tryd.prog 79 #[.string s, .int .i64 (k : Int)] w fun e w' => e = .returned (.tuple #[.string (encS x), .int .i64 ((k + z : Nat) : Int), .int .i64 0]) ∧ Below w.heap.size w w') := Lib.hid (fun w => by have := D.out w; rwa [hV] at this)
                have hel : Hid ((encS x).size = (encN x).length) := Lib.hid (by show ((encN x).map UInt8.ofNat).toArray.size = _; simp)
                replace h92 := Lib.hid h92
                replace hq2 := Lib.hid hq2
                replace hlt := Lib.hid hlt
                replace hE := Lib.hid hE
                replace hV := Lib.hid hV
                replace hok := Lib.hid hok
                replace hen := Lib.hid hen
                (go_wp2_with fail; repeat (any_goals (go_quiet (fail); go_wp2_with fail)))
                refine (D.out _).mono ?_
                rintro e w1 ⟨rfl, hb⟩
                have ho1 := Lib.hid (H.out.2.2.2.2.next hb)
                have hb1 := hB.trans (hb.mono hB.size)
                clear hb
                go_wp2_with (at_builtin; refine app_str rfl _ _ rfl w.heap.size _ l rfl ho1.out (encS x) rfl (by have := H.out.2.2.1; have := hel.out; have := hen.out; have := hok.out; have := hs.out; omega) hb1.size ?_; intro v' w2 ho2 hg)
                have hb2 := below_own hb1 ho1.out hg hb1.size
                replace ho2 := Lib.hid ho2
                clear hg
                (go_wp2_with fail; repeat (any_goals (go_quiet (fail); go_wp2_with fail)))
                go_roundg (s.size + 1 - (k + z))
                case measure => have := H.out.2.2.2.1; have := hok.out; omega
                case rel =>
                  have h3 := H.out.2.2.1
                  have h4 := H.out.2.2.2.1
                  have h5 := hen.out
                  have h6 := hok.out
                  refine ⟨k + z, l ++ (encN x).map UInt8.ofNat, rfl, Lib.hid ⟨hq2.out.symm, h6.1, by rw [List.length_append, List.length_map]; omega, by omega, ho2.out⟩, by assumption⟩
              | succ e =>
                rw [if_neg (by simp)] at hq2
                simp only at hq2
                have he := Lib.hid (rQV_bad hq2)
                have hV : rEscV (escAt s k) k = .tuple #[.string ⟨#[]⟩, .int .i64 0, .int .i64 ((e + 1 : Nat) : Int)] := rEscV_bad hE
                replace D : Hid (∀ w, Calls Tryd.prog 79 #[.string s, .int .i64 (k : Int)] w fun r w' => r = .returned (.tuple #[.string ⟨#[]⟩, .int .i64 0, .int .i64 ((e + 1 : Nat) : Int)]) ∧ Below w.heap.size w w') := Lib.hid (fun w => by have := D.out w; rwa [hV] at this)
                have hne : (((e + 1 : Nat) : Int) == 0) = false := by simp; omega
                have hne2 : (((e + 1 : Nat) : Int) != 0) = true := by simp; omega
                replace h92 := Lib.hid h92
                replace hq2 := Lib.hid hq2
                replace hlt := Lib.hid hlt
                replace hE := Lib.hid hE
                replace hV := Lib.hid hV
                generalize ((e + 1 : Nat) : Int) = e1 at *
                (go_wp2_with fail; repeat (any_goals (go_quiet (fail); go_wp2_with fail)))
                refine (D.out _).mono ?_
                rintro e w1 ⟨rfl, hb⟩
                have hb1 := hB.trans (hb.mono hB.size)
                clear hb
                (go_wp2_with fail; repeat (any_goals (go_quiet (fail); go_wp2_with fail)))
                refine bodyPost_ret (v := .tuple #[.string ⟨#[]⟩, .int .i64 0, .int .i64 e1, .int .i64 (k : Int)]) (by simp [results, Tryd.results60, go_sem]) rfl ⟨by rw [he.out], hb1⟩
          · have h92' : ((bAt s k : Int) == 92) = false := by simp; omega
            rw [if_neg h92] at hq2
            replace h92 := Lib.hid h92
            replace hq2 := Lib.hid hq2
            replace hlt := Lib.hid hlt
            have ho1 := Lib.hid H.out.2.2.2.2
            have hz := hB.size
            go_wp2_with (at_builtin; refine app_lit rfl _ _ rfl w.heap.size _ l rfl (World.ownsRow.alloc ho1.out _) _ 1 1 _ _ _ [UInt8.ofNat (bAt s k)] rfl (heap_alloc_new _ _) ?c1 rfl (by have := H.out.2.2.1; have := hs.out; omega) (by simp; omega) ?_)
            case c1 => simp [u8c]; omega
            intro v' w2 ho2 hg
            have hb2 := below_own (hB.alloc hz _) (World.ownsRow.alloc ho1.out _) hg (by simp; omega)
            replace ho2 := Lib.hid ho2
            clear hg
            (go_wp2_with fail; repeat (any_goals (go_quiet (fail); go_wp2_with fail)))
            go_roundg (s.size + 1 - (k + 1))
            case measure => have := H.out.2.2.2.1; omega
            case rel =>
              have h3 := H.out.2.2.1
              have h4 := H.out.2.2.2.1
              refine ⟨k + 1, l ++ [UInt8.ofNat (bAt s k)], by go_num, Lib.hid ⟨hq2.out.symm, hlt.out, by rw [List.length_append, List.length_singleton]; omega, by omega, ho2.out⟩, by assumption⟩
    · have hlt' : ¬ (k : Int) < (s.size : Int) := by omega
      have hq2 := hq.out
      rw [if_neg hlt, H.out.1] at hq2
      have he := Lib.hid (rQV_bad hq2)
      have hke : Hid (k = s.size) := Lib.hid (by omega)
      replace hq2 := Lib.hid hq2
      clear hq
      replace hlt := Lib.hid hlt
      (go_wp2_with fail; repeat (any_goals (go_quiet (fail); go_wp2_with fail)))
      refine bodyPost_ret (v := .tuple #[.string ⟨#[]⟩, .int .i64 0, .int .i64 2, .int .i64 (k : Int)]) (by simp [results, Tryd.results60, go_sem]) rfl ⟨by rw [he.out, hke.out]; rfl, (by repeat (first | assumption | exact Below.refl _ _ | apply Below.drew | apply below_drewN | apply balloc | (refine Below.setCell ?_ (by first | omega | (simp <;> omega)) _)))⟩

end Go.Proofs.YtnldhgkmbighkaaDoor
