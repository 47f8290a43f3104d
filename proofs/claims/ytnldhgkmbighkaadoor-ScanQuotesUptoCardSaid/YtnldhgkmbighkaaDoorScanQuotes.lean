/- ScanQuotes: the walk. -/
import Derived.Test.YtnldhgkmbighkaaDoorFixed17
import Derived.Test.YtnldhgkmbighkaaDoorSRef9
namespace Go.Proofs.YtnldhgkmbighkaaDoor
open Go Go.RowKit

/-- Unquote of what Quote tells. -/
theorem unq_quote {A : Nat → Addr} {B : Nat} (x : ByteArray) (w : World) (hE : Env A B SK w) (hu : utfE x = 0) (hs : (quoteS x).size ≤ 3518437208882) :
    Calls Tryd.prog 16 #[.string (quoteS x)] w fun e w' => e = .returned (.tuple #[.string x, .nilIface]) ∧ Below w.heap.size w w' := by
  refine (Unquote_calls (quoteS x) w hE hs).mono fun e w' ⟨hr, hb⟩ => ⟨?_, hb⟩
  have hq := quote_scan hu
  unfold UnqR at hr
  rw [hq] at hr
  rcases hr with ⟨_, _, T, h2, rfl⟩ | ⟨_, h, _⟩ | ⟨h, _⟩
  · simp only [List.cons.injEq, and_true] at h2
    rw [← h2]
  · unfold single at h
    simp at h
  · exact absurd rfl h
theorem quote_size (x : ByteArray) : (quoteS x).size ≤ 2 + 6 * x.size := by
  have h := quoteK_len x x.size (Nat.le_refl _)
  have e := quoteK_end x
  rw [← e, size_mk, List.length_append]
  simp
  omega
theorem single_text {s : ByteArray} (h0 : (someS s).2.1 = 0) {T : Tk} (hT : (someS s).1 = [T]) : utfE T.text = 0 ∧ T.text.size ≤ s.size := by
  obtain ⟨hu, hch, _⟩ := some_chain h0
  have hbd := chain_bd _ 0 ((utfE_brk _).1 hu) (Nat.zero_le _) hch T (by rw [hT]; simp)
  refine ⟨one_text (by omega) hbd.2.2.2.1 hbd.2.2.2.2.2, ?_⟩
  have := one_fr (by omega) hbd.2.2.2.1 hbd.2.2.2.2.2
  omega
set_option maxHeartbeats 4000000 in
set_option maxRecDepth 100000 in
theorem ScanQuotes_calls {A : Nat → Addr} {B : Nat} (s : ByteArray) (w : World) (hs : s.size ≤ 1048576) (hE : Env A B SVN w) :
    Calls Tryd.prog 4 #[.string s] w fun e w' => e = .returned (.bool true) ∧ Below w.heap.size w w' := by
  have Q := Lib.hid (fun w hE => Quote_calls (A := A) (B := B) s w hE (by omega))
  have V := Lib.hid (fun w => Utf8_calls s w (by omega))
  have RQ := Lib.hid (fun w => rQuote_calls s w (by omega))
  have U := Lib.hid (fun w hE => Unquote_calls (A := A) (B := B) s w hE (by omega))
  have hqs := quote_size s
  have UQ := Lib.hid (fun hu w hE => unq_quote (A := A) (B := B) s w hE hu (by omega))
  have hst := Lib.hid (fun h0 T hT => single_text (s := s) h0 (T := T) hT)
  replace hqs := Lib.hid hqs
  replace hs := Lib.hid hs
  go_enter Tryd.func4, Tryd.ntmps4
  (go_wp2_with fail; repeat (any_goals (go_quiet (fail); go_wp2_with fail)))
  refine (fixed17 _ (hE.next (by repeat (first | assumption | exact Below.refl _ _ | apply Below.drew | apply below_drewN | apply balloc | (refine Below.setCell ?_ (by first | omega | (simp <;> omega)) _))))).mono ?_
  rintro e w1 ⟨rfl, hb⟩
  have hb1 : Below w.heap.size w w1 := bcall (by repeat (first | assumption | exact Below.refl _ _ | apply Below.drew | apply below_drewN | apply balloc | (refine Below.setCell ?_ (by first | omega | (simp <;> omega)) _))) hb
  clear hb
  by_cases hu : utfE s = 0
  · replace Q : Hid (∀ w, Env A B SU w → Calls Tryd.prog 13 #[.string s] w fun e w' => e = .returned (.tuple #[.string (quoteS s), .nilIface]) ∧ Below w.heap.size w w') := Lib.hid (fun w hE => by have := Q.out w hE; rwa [if_pos hu] at this)
    replace V : Hid (∀ w, Calls Tryd.prog 14 #[.string s] w fun e w' => e = .returned (.bool true) ∧ Below w.heap.size w w') := Lib.hid (fun w => by have := V.out w; rwa [decide_eq_true hu] at this)
    replace UQ := Lib.hid (UQ.out hu)
    replace hu := Lib.hid hu
    generalize quoteS s = q at *
    (go_wp2_with fail; repeat (any_goals (go_quiet (fail); go_wp2_with fail)))
    refine (Q.out _ ((hE.next hb1).sub (by decide))).mono ?_
    rintro e w2 ⟨rfl, hb⟩
    have hb2 : Below w.heap.size w w2 := bcall hb1 hb
    clear hb
    (go_wp2_with fail; repeat (any_goals (go_quiet (fail); go_wp2_with fail)))
    refine (V.out _).mono ?_
    rintro e w3 ⟨rfl, hb⟩
    have hb3 : Below w.heap.size w w3 := bcall hb2 hb
    clear hb
    (go_wp2_with fail; repeat (any_goals (go_quiet (fail); go_wp2_with fail)))
    refine (RQ.out _).mono ?_
    rintro e w4 ⟨rfl, hb⟩
    have hb4 : Below w.heap.size w w4 := bcall (by repeat (first | assumption | exact Below.refl _ _ | apply Below.drew | apply below_drewN | apply balloc | (refine Below.setCell ?_ (by first | omega | (simp <;> omega)) _))) hb
    clear hb
    (go_wp2_with fail; repeat (any_goals (go_quiet (fail); go_wp2_with fail)))
    refine (UQ.out _ ((hE.next hb4).sub (by decide))).mono ?_
    rintro e w5 ⟨rfl, hb⟩
    have hb5 : Below w.heap.size w w5 := bcall (by repeat (first | assumption | exact Below.refl _ _ | apply Below.drew | apply below_drewN | apply balloc | (refine Below.setCell ?_ (by first | omega | (simp <;> omega)) _))) hb
    clear hb
    (go_wp2_with fail; repeat (any_goals (go_quiet (fail); go_wp2_with fail)))
    refine (U.out _ ((hE.next hb5).sub (by decide))).mono ?_
    rintro e w2 ⟨hr, hb⟩
    have hb2 : Below w.heap.size w w2 := bcall hb5 hb
    clear hb U
    rcases hr with ⟨h0, h1, T, hT, rfl⟩ | ⟨h0, h1, rfl⟩ | ⟨h0, g2, _, rfl, hat⟩
    · obtain ⟨hu, hsz⟩ := hst.out h0 T hT
      have hqs := quote_size T.text
      have Q := Lib.hid (fun w hE => Quote_calls (A := A) (B := B) T.text w hE (by have := hs.out; omega))
      have UQ := Lib.hid (fun w hE => unq_quote (A := A) (B := B) T.text w hE hu (by have := hs.out; omega))
      replace Q : Hid (∀ w, Env A B SU w → Calls Tryd.prog 13 #[.string T.text] w fun e w' => e = .returned (.tuple #[.string (quoteS T.text), .nilIface]) ∧ Below w.heap.size w w') := Lib.hid (fun w hE => by have := Q.out w hE; rwa [if_pos hu] at this)
      replace hu := Lib.hid hu
      replace hsz := Lib.hid hsz
      replace h0 := Lib.hid h0
      replace h1 := Lib.hid h1
      replace hT := Lib.hid hT
      replace hqs := Lib.hid hqs
      generalize quoteS T.text = q at *
      (go_wp2_with fail; repeat (any_goals (go_quiet (fail); go_wp2_with fail)))
      refine (Q.out _ ((hE.next hb2).sub (by decide))).mono ?_
      rintro e w3 ⟨rfl, hb⟩
      have hb3 : Below w.heap.size w w3 := bcall hb2 hb
      clear hb
      (go_wp2_with fail; repeat (any_goals (go_quiet (fail); go_wp2_with fail)))
      refine (UQ.out _ ((hE.next hb3).sub (by decide))).mono ?_
      rintro e w4 ⟨rfl, hb⟩
      have hb4 : Below w.heap.size w w4 := bcall hb3 hb
      clear hb
      (go_wp2_with fail; repeat (any_goals (go_quiet (fail); go_wp2_with fail)))
      go_ret
      exact ⟨rfl, (by repeat (first | assumption | exact Below.refl _ _ | apply Below.drew | apply below_drewN | apply balloc | (refine Below.setCell ?_ (by first | omega | (simp <;> omega)) _)))⟩
    · replace h0 := Lib.hid h0
      replace h1 := Lib.hid h1
      (go_wp2_with fail; repeat (any_goals (go_quiet (fail); go_wp2_with fail)))
      go_ret
      exact ⟨rfl, (by repeat (first | assumption | exact Below.refl _ _ | apply Below.drew | apply below_drewN | apply balloc | (refine Below.setCell ?_ (by first | omega | (simp <;> omega)) _)))⟩
    · replace h0 := Lib.hid h0
      clear hat
      (go_wp2_with fail; repeat (any_goals (go_quiet (fail); go_wp2_with fail)))
      go_ret
      exact ⟨rfl, (by repeat (first | assumption | exact Below.refl _ _ | apply Below.drew | apply below_drewN | apply balloc | (refine Below.setCell ?_ (by first | omega | (simp <;> omega)) _)))⟩
  · replace Q : Hid (∀ w, Env A B SU w → Calls Tryd.prog 13 #[.string s] w fun e w' => e = .returned (.tuple #[.string ⟨#[]⟩, .iface 203 (.pointer (some (A 1)))]) ∧ Below w.heap.size w w') := Lib.hid (fun w hE => by have := Q.out w hE; rwa [if_neg hu] at this)
    replace V : Hid (∀ w, Calls Tryd.prog 14 #[.string s] w fun e w' => e = .returned (.bool false) ∧ Below w.heap.size w w') := Lib.hid (fun w => by have := V.out w; rwa [decide_eq_false hu] at this)
    clear UQ
    replace hu := Lib.hid hu
    (go_wp2_with fail; repeat (any_goals (go_quiet (fail); go_wp2_with fail)))
    refine (Q.out _ ((hE.next hb1).sub (by decide))).mono ?_
    rintro e w2 ⟨rfl, hb⟩
    have hb2 : Below w.heap.size w w2 := bcall hb1 hb
    clear hb
    (go_wp2_with fail; repeat (any_goals (go_quiet (fail); go_wp2_with fail)))
    refine (V.out _).mono ?_
    rintro e w3 ⟨rfl, hb⟩
    have hb3 : Below w.heap.size w w3 := bcall hb2 hb
    clear hb
    (go_wp2_with fail; repeat (any_goals (go_quiet (fail); go_wp2_with fail)))
    refine (Num_err 1 _ (by decide) (by decide) (hE.next (by repeat (first | assumption | exact Below.refl _ _ | apply Below.drew | apply below_drewN | apply balloc | (refine Below.setCell ?_ (by first | omega | (simp <;> omega)) _))))).mono ?_
    rintro e w4 ⟨rfl, hb⟩
    have hb4 : Below w.heap.size w w4 := bcall (by repeat (first | assumption | exact Below.refl _ _ | apply Below.drew | apply below_drewN | apply balloc | (refine Below.setCell ?_ (by first | omega | (simp <;> omega)) _))) hb
    clear hb
    (go_wp2_with fail; repeat (any_goals (go_quiet (fail); go_wp2_with fail)))

    refine (U.out _ ((hE.next hb4).sub (by decide))).mono ?_
    rintro e w2 ⟨hr, hb⟩
    have hb2 : Below w.heap.size w w2 := bcall hb4 hb
    clear hb U
    rcases hr with ⟨h0, h1, T, hT, rfl⟩ | ⟨h0, h1, rfl⟩ | ⟨h0, g2, _, rfl, hat⟩
    · obtain ⟨hu, hsz⟩ := hst.out h0 T hT
      have hqs := quote_size T.text
      have Q := Lib.hid (fun w hE => Quote_calls (A := A) (B := B) T.text w hE (by have := hs.out; omega))
      have UQ := Lib.hid (fun w hE => unq_quote (A := A) (B := B) T.text w hE hu (by have := hs.out; omega))
      replace Q : Hid (∀ w, Env A B SU w → Calls Tryd.prog 13 #[.string T.text] w fun e w' => e = .returned (.tuple #[.string (quoteS T.text), .nilIface]) ∧ Below w.heap.size w w') := Lib.hid (fun w hE => by have := Q.out w hE; rwa [if_pos hu] at this)
      replace hu := Lib.hid hu
      replace hsz := Lib.hid hsz
      replace h0 := Lib.hid h0
      replace h1 := Lib.hid h1
      replace hT := Lib.hid hT
      replace hqs := Lib.hid hqs
      generalize quoteS T.text = q at *
      (go_wp2_with fail; repeat (any_goals (go_quiet (fail); go_wp2_with fail)))
      refine (Q.out _ ((hE.next hb2).sub (by decide))).mono ?_
      rintro e w3 ⟨rfl, hb⟩
      have hb3 : Below w.heap.size w w3 := bcall hb2 hb
      clear hb
      (go_wp2_with fail; repeat (any_goals (go_quiet (fail); go_wp2_with fail)))
      refine (UQ.out _ ((hE.next hb3).sub (by decide))).mono ?_
      rintro e w4 ⟨rfl, hb⟩
      have hb4 : Below w.heap.size w w4 := bcall hb3 hb
      clear hb
      (go_wp2_with fail; repeat (any_goals (go_quiet (fail); go_wp2_with fail)))
      go_ret
      exact ⟨rfl, (by repeat (first | assumption | exact Below.refl _ _ | apply Below.drew | apply below_drewN | apply balloc | (refine Below.setCell ?_ (by first | omega | (simp <;> omega)) _)))⟩
    · replace h0 := Lib.hid h0
      replace h1 := Lib.hid h1
      (go_wp2_with fail; repeat (any_goals (go_quiet (fail); go_wp2_with fail)))
      go_ret
      exact ⟨rfl, (by repeat (first | assumption | exact Below.refl _ _ | apply Below.drew | apply below_drewN | apply balloc | (refine Below.setCell ?_ (by first | omega | (simp <;> omega)) _)))⟩
    · replace h0 := Lib.hid h0
      clear hat
      (go_wp2_with fail; repeat (any_goals (go_quiet (fail); go_wp2_with fail)))
      go_ret
      exact ⟨rfl, (by repeat (first | assumption | exact Below.refl _ _ | apply Below.drew | apply below_drewN | apply balloc | (refine Below.setCell ?_ (by first | omega | (simp <;> omega)) _)))⟩

end Go.Proofs.YtnldhgkmbighkaaDoor
