/- Package scan: the walk of text. -/
import Derived.Test.YtnldhgkmbighkaaDoorScan4
import Derived.Test.YtnldhgkmbighkaaDoorBuild
import Derived.Test.YtnldhgkmbighkaaDoorTextPlain
import Derived.Laws.RangeString
namespace Go.Proofs.YtnldhgkmbighkaaDoor
open Go Go.RowKit

theorem BuIs.next {B b : Nat} {bs : List Value} {w w1 : World} (h : BuIs B b bs w) (hb : Below w.heap.size w w1) : BuIs B b bs w1 := by
  have key : ∀ p, Lib.BuilderAt 179 5 B b p bs w → Lib.BuilderAt 179 5 B b p bs w1 := by
    rintro p ⟨h1, v, h2, h3, h4⟩
    refine ⟨h1, v, (hb.block b (ltB h2)).trans h2, ?_, h4⟩
    obtain ⟨r1, r2⟩ := h3
    refine ⟨r1, ?_⟩
    rcases r2 with r2 | ⟨g, cap, cur, hv, hg, hh, r⟩
    · exact Or.inl r2
    · exact Or.inr ⟨g, cap, cur, hv, hg, by rw [hb.block g (ltB hh)]; exact hh, r⟩
  exact h.imp (key _) (key _)
theorem BuIs.iterAt {B b : Nat} {bs : List Value} {w : World} (h : BuIs B b bs w) {k : Nat} {s : ByteArray} {pos : Nat} (hk : w.heap[k]? = some (.stringIter s pos)) (pos' : Nat) : BuIs B b bs (w.iterAt k s pos') := by
  have key : ∀ p, Lib.BuilderAt 179 5 B b p bs w → Lib.BuilderAt 179 5 B b p bs (w.iterAt k s pos') := by
    rintro p ⟨h1, v, h2, h3, h4⟩
    have hne : b ≠ k := fun e => by rw [e, hk] at h2; cases h2
    refine ⟨h1, v, by rw [Lib.iterAt_other _ _ _ _ _ hne]; exact h2, ?_, h4⟩
    obtain ⟨r1, r2⟩ := h3
    refine ⟨r1, ?_⟩
    rcases r2 with r2 | ⟨g, cap, cur, hv, hg, hh, r⟩
    · exact Or.inl r2
    · have hne2 : g ≠ k := fun e => by rw [e, hk] at hh; cases hh
      exact Or.inr ⟨g, cap, cur, hv, hg, by rw [Lib.iterAt_other _ _ _ _ _ hne2]; exact hh, r⟩
  exact h.imp (key _) (key _)
theorem iter_next {w w1 : World} {k : Nat} {s : ByteArray} {pos : Nat} (h : w.heap[k]? = some (.stringIter s pos)) (hb : Below w.heap.size w w1) : w1.heap[k]? = some (.stringIter s pos) := box_next h hb

/-- What text answers. -/
def TextR (A : Nat → Addr) (Q : Nat × Nat × List UInt8) (w : World) (e : Ending) (w' : World) : Prop :=
  if Q.1 = 0 then e = .returned (.tuple #[.string ⟨Q.2.2.toArray⟩, .int .i64 (Q.2.1 : Int), .nilIface])
  else ∃ g, w.heap.size ≤ g ∧ e = .returned (.tuple #[.string ⟨#[]⟩, .int .i64 0, .iface 34 (.pointer (some ⟨g, 0, none⟩))]) ∧ AtB (Q.2.1 : Int) (.iface 203 (.pointer (some (A Q.1)))) g w'
theorem textR_ok {A : Nat → Addr} {Q : Nat × Nat × List UInt8} {i : Nat} {l : List UInt8} {w w' : World} {e : Ending} (h : Q = (0, i, l)) : TextR A Q w e w' ↔ e = .returned (.tuple #[.string ⟨l.toArray⟩, .int .i64 (i : Int), .nilIface]) := by
  subst h; unfold TextR; rw [if_pos rfl]
theorem textR_bad {A : Nat → Addr} {Q : Nat × Nat × List UInt8} {k i : Nat} {l : List UInt8} {w w' : World} {e : Ending} (h : Q = (k + 1, i, l)) : TextR A Q w e w' ↔
    ∃ g, w.heap.size ≤ g ∧ e = .returned (.tuple #[.string ⟨#[]⟩, .int .i64 0, .iface 34 (.pointer (some ⟨g, 0, none⟩))]) ∧ AtB (i : Int) (.iface 203 (.pointer (some (A (k + 1))))) g w' := by
  subst h; unfold TextR; rw [if_neg (by simp)]
/-- Where the loop stands: the rune's place, what has come, the place up to which to go by. -/
def TextRel (s : ByteArray) (a : Nat) (Q : Nat × Nat × List UInt8) (pos next : Nat) (acc : List UInt8) : Prop :=
  a + pos ≤ s.size ∧ next ≤ s.size + 1 ∧ acc.length ≤ 4 * pos ∧ brkAt s (a + pos) = s.size ∧ ((next ≤ a + pos ∧ Q = qAt s (a + pos) acc) ∨ (a + pos < next ∧ next ≤ s.size ∧ Q = qAt s next acc ∧ ∀ j, a + pos + j < next → bAt s (a + pos + j) < 128))
theorem encodeRune_len (r : Int) : (Lib.encodeRune r).length ≤ 4 := by
  unfold Lib.encodeRune
  rw [List.length_map]
  exact (Lib.encodeRuneZ_length r).2
theorem rel_skip {s : ByteArray} {a : Nat} {Q : Nat × Nat × List UInt8} {pos next m : Nat} {acc : List UInt8} (h : TextRel s a Q pos next acc) (hq : a + pos < s.size) (hm : (refAt s (a + pos)).2 = m) (hsk : a + pos < next) : TextRel s a Q (pos + m) next acc := by
  obtain ⟨h1, h2, h3, h4, h5 | ⟨h5, h6, h7, h8⟩⟩ := h
  · omega
  · obtain ⟨hw0, hbn⟩ := brk_next hq h4
    have hb0 := h8 0 (by omega)
    obtain ⟨_, _, _, hw1, ⟨hw2, _, _⟩ | ⟨_, _, hw2⟩⟩ := rune_cases hq hw0
    · rw [hw2] at hm hbn
      subst hm
      refine ⟨by omega, h2, by omega, by rw [← Nat.add_assoc]; exact hbn, ?_⟩
      by_cases he : a + (pos + 1) = next
      · exact Or.inl ⟨by omega, by rw [he]; exact h7⟩
      · exact Or.inr ⟨by omega, h6, h7, fun j hj => by
          have := h8 (j + 1) (by omega)
          rw [show a + (pos + 1) + j = a + pos + (j + 1) by omega]; exact this⟩
    · have := hw2 0 (by omega)
      omega
theorem rel_rune {s : ByteArray} {a : Nat} {Q : Nat × Nat × List UInt8} {pos next r m : Nat} {acc : List UInt8} (h : TextRel s a Q pos next acc) (hq : a + pos < s.size) (hr : (refAt s (a + pos)).1 = r) (hm : (refAt s (a + pos)).2 = m) (hsk : ¬ a + pos < next)
    (h34 : r ≠ 34) (h32 : 32 ≤ r) (h92 : r ≠ 92) : TextRel s a Q (pos + m) (a + pos + 1) (acc ++ Lib.encodeRune (r : Int)) := by
  obtain ⟨h1, h2, h3, h4, ⟨h5, h6⟩ | ⟨h5, _⟩⟩ := h
  · obtain ⟨hw0, hbn⟩ := brk_next hq h4
    obtain ⟨_, _, _, hw1, hw2⟩ := rune_cases hq hw0
    have hk := qAt_rune acc hq hw0 (by rw [hr]; exact h34) (by rw [hr]; exact h32) (by rw [hr]; exact h92)
    have hl := encodeRune_len (r : Int)
    rw [hm] at hbn hw1 hk
    rw [hr] at hk
    refine ⟨by omega, by omega, by rw [List.length_append]; omega, by rw [← Nat.add_assoc]; exact hbn, Or.inl ⟨by omega, ?_⟩⟩
    rw [h6, hk, Nat.add_assoc]
  · omega
theorem rel_esc {s : ByteArray} {a : Nat} {Q : Nat × Nat × List UInt8} {pos next : Nat} {acc : List UInt8} (h : TextRel s a Q pos next acc) (hq : a + pos < s.size) (hsk : ¬ a + pos < next) (h92 : bAt s (a + pos) = 92) (he : (escAt s (a + pos)).1 = 0) :
    TextRel s a Q (pos + 1) (a + pos + (escAt s (a + pos)).2.2) (acc ++ Lib.encodeRune ((escAt s (a + pos)).2.1 : Int)) := by
  obtain ⟨h1, h2, h3, h4, ⟨h5, h6⟩ | ⟨h5, _⟩⟩ := h
  · have hb := brk_ascii h4 hq (by omega)
    have ho := escAt_ok h92 he
    have hl := encodeRune_len ((escAt s (a + pos)).2.1 : Int)
    refine ⟨by omega, by omega, by rw [List.length_append]; omega, hb, Or.inr ⟨by omega, ho.1, ?_, fun j hj => ?_⟩⟩
    · rw [h6, qAt_eq, if_pos hq, if_neg (by omega), if_neg (by omega), if_pos h92, if_pos he, encodeRune_enc ho.2.2.2.1]
    · have := escAt_ascii h92 he (j + 1) (by omega)
      rw [show a + (pos + 1) + j = a + pos + (j + 1) by omega]; exact this
  · omega
theorem rel_at {s : ByteArray} {a : Nat} {Q : Nat × Nat × List UInt8} {pos next : Nat} {acc : List UInt8} (h : TextRel s a Q pos next acc) (hsk : ¬ a + pos < next) : Q = qAt s (a + pos) acc := by
  obtain ⟨_, _, _, _, ⟨_, h6⟩ | ⟨h5, _⟩⟩ := h
  · exact h6
  · omega
set_option maxHeartbeats 8000000 in
set_option maxRecDepth 100000 in
theorem text_calls {A : Nat → Addr} {B : Nat} (s : ByteArray) (p : Nat) (b : Nat) (w : World) (hE : Env A B SJ w) (hs : s.size ≤ 35184372088830) (hsc : ScB s (p : Int) b w) (hp : p < s.size) (hv : brkAt s (p + 1) = s.size) :
    Calls Tryd.prog 77 #[.pointer (some ⟨b, 0, none⟩)] w fun e w' => TextR A (qAt s (p + 1) []) w e w' ∧ Below w.heap.size w w' := by
  have x0 := hsc.s
  have x1 := hsc.at
  have hbl : b < w.heap.size := ltB hsc
  have hp' : (p : Int) + 1 ≤ (s.size : Int) := by omega
  have hs' : (s.size : Int) ≤ 35184372088830 := by omega
  obtain ⟨Q, hQ⟩ : ∃ Q, Q = qAt s (p + 1) [] := ⟨_, rfl⟩
  rw [← hQ]
  replace hQ := Lib.hid hQ
  replace hsc := Lib.hid hsc
  obtain ⟨t, ht⟩ : ∃ t, s.extract (p + 1) s.size = t := ⟨_, rfl⟩
  have hts : Hid (t.size = s.size - (p + 1)) := Lib.hid (by rw [← ht, ByteArray.size_extract]; omega)
  have hts2 : (t.size : Int) ≤ (s.size : Int) := by have := hts.out; omega
  go_enter Tryd.func77, Tryd.ntmps77
  go_wp2_with fail
  go_step3
  go_wp2_with fail
  go_step3
  go_wp2_with fail
  have hQ1 := hQ.out
  go_loopw [7] (fun v7 wr => ∃ (pos next : Nat) (acc : List UInt8), v7 = .int .i64 (next : Int) ∧ Hid (TextRel s (p + 1) Q pos next acc) ∧ Hid (BuIs w.heap.size w.heap.size (Lib.byteCells acc) wr ∧ wr.heap[w.heap.size + 1]? = some (.stringIter t pos)) ∧ Below w.heap.size w wr) (fun _ wr => t.size - wr.iterPos (w.heap.size + 1))
  case atStart =>
    refine ⟨0, p + 1, [], by go_num, Lib.hid ⟨by omega, by omega, by simp, by simpa using hv, Or.inl ⟨by omega, by simpa using hQ1⟩⟩, Lib.hid ⟨?_, ?_⟩, ?_⟩
    · have h0 := Lib.fresh_isBuilder 179 5 w
      exact BuIs.next h0 (balloc (Below.refl _ _))
    · have := World.iter_heap (w.alloc (.cells #[.pointer none, .slice none 0 0] 179)) t 0
      simpa using this
    · exact balloc (balloc (Below.refl _ _))
  case round =>
    obtain ⟨pos, next, acc, rfl, HR, HB, hb⟩ := hrel
    obtain ⟨hr1, hr2, hr3, hr4, hr5⟩ := HR.out
    obtain ⟨hI, hit⟩ := HB.out
    have hts1 := hts.out
    have hsz : w.heap.size + 1 < wr.heap.size := ltB hit
    have hsc1 := hsc.out.next hb
    have y0 := hsc1.s
    by_cases hq : pos < t.size
    · have hq' : p + 1 + pos < s.size := by omega
      obtain ⟨hw0, hbn⟩ := brk_next hq' hr4
      obtain ⟨hsn, _, _, hw1, hw2⟩ := rune_cases hq' hw0
      have hdec : Utf8.decode t pos = refAt s (p + 1 + pos) := by rw [← ht]; exact rune_dec hq' hw0
      have h34 := rune_byte hq' hw0 34 (by decide)
      have h92 := rune_byte hq' hw0 92 (by decide)
      have h32 := rune_low hq' hw0
      have hnx : ∀ ty, (Instr.next (.pointer (some ⟨w.heap.size + 1, 0, none⟩)) true ty).run Tryd.prog wr = _ := fun ty => Lib.run_next_any_at wr (w.heap.size + 1) t pos ty hit hq
      rw [hdec] at hnx
      have hrl := scalarN_le hsn
      obtain ⟨r, hr⟩ : ∃ r, (refAt s (p + 1 + pos)).1 = r := ⟨_, rfl⟩
      obtain ⟨m, hm⟩ : ∃ m, (refAt s (p + 1 + pos)).2 = m := ⟨_, rfl⟩
      rw [hr, hm] at hnx
      rw [hr] at hrl h34 h92 h32
      rw [hm] at hw1
      replace hr := Lib.hid hr
      obtain ⟨W2, hW2⟩ : ∃ W2, W2 = wr.iterAt (w.heap.size + 1) t (pos + m) := ⟨_, rfl⟩
      rw [← hW2] at hnx
      have hI2 : BuIs w.heap.size w.heap.size (Lib.byteCells acc) W2 := by rw [hW2]; exact hI.iterAt hit _
      have hit2 : W2.heap[w.heap.size + 1]? = some (.stringIter t (pos + m)) := by rw [hW2]; exact Lib.iterAt_heap wr _ t pos _ hit
      have hb2 : Below w.heap.size w W2 := by rw [hW2]; exact Lib.below_iterAt hb (by omega) t _
      have hz2 : w.heap.size + 1 < W2.heap.size := ltB hit2
      have hm1 : 1 ≤ m := by
        rw [hm] at hw2; omega
      have hmu : ∀ W3 : World, W3.heap[w.heap.size + 1]? = some (.stringIter t (pos + m)) → t.size - W3.iterPos (w.heap.size + 1) < t.size - wr.iterPos (w.heap.size + 1) := by
        intro W3 h3
        simp only [World.iterPos, hit, h3]; omega
      have hlb : (Lib.byteCells acc).length + 4 ≤ 140737488355328 := by rw [Lib.byteCells_length]; omega
      replace hm := Lib.hid hm
      replace hmu := Lib.hid hmu
      replace hit2 := Lib.hid hit2
      replace hI2 := Lib.hid hI2
      replace h34 := Lib.hid h34
      replace h92 := Lib.hid h92
      replace h32 := Lib.hid h32
      replace hlb := Lib.hid hlb
      replace hts1 := Lib.hid hts1
      replace ht := Lib.hid ht
      have hq2 := Lib.hid hq'
      have hsc2 := Lib.hid (hsc.out.next hb2)
      have z0 := hsc2.out.s
      clear hW2 hb hsz HB hI hit hr1 hr2 hr3 hr4 hr5 hsn hw2 hbn hw0 hdec hsc1 y0 hm1
      by_cases hsk : p + 1 + pos < next
      · have hsk' : (p : Int) + 1 + (pos : Int) < (next : Int) := by omega
        replace hsk := Lib.hid hsk
        go_wp2_with fail
        go_roundw
        case rel => exact ⟨pos + m, next, acc, rfl, Lib.hid (rel_skip HR.out hq2.out hm.out hsk.out), Lib.hid ⟨hI2.out, hit2.out⟩, hb2⟩
        case measure => exact hmu.out _ hit2.out
      · have hsk' : (next : Int) ≤ (p : Int) + 1 + (pos : Int) := by omega
        have hQe := Lib.hid (rel_at HR.out hsk)
        replace hsk := Lib.hid hsk
        have e2 := (hE.next hb2).e2
        by_cases c34 : r = 34
        · subst c34
          have hNe : Q = (0, p + 1 + pos + 1, acc) := by rw [hQe.out, qAt_eq, if_pos hq2.out, if_pos (h34.out.1 rfl)]
          replace hNe := Lib.hid hNe
          go_wp2_with fail
          refine (Tryd.Builder_String_any_k w.heap.size w.heap.size acc _ (Lib.IsBuilderF.of hI2.out) (by omega)).mono ?_
          rintro e w3 ⟨rfl, _, b3, _⟩
          go_wp2_with fail
          (try simp only [Exit.inBlock, Exit.then])
          (try rw [Exit.noGoto_ret])
          go_ret3
          exact ⟨(textR_ok hNe.out).2 rfl, hb2.trans b3⟩
        have n34 : ((r : Int) == 34) = false := by simp; omega
        by_cases c32 : r < 32
        · have hNe : Q = (2, p + 1 + pos, []) := by
            have h1 : ¬ bAt s (p + 1 + pos) = 34 := fun h => c34 (h34.out.2 h)
            rw [hQe.out, qAt_eq, if_pos hq2.out, if_neg h1, if_pos (h32.out.1 c32)]
          have hNe := Lib.hid hNe
          replace c34 := Lib.hid c34
          have c32' : (r : Int) < 32 := by omega
          replace c32 := Lib.hid c32
          go_wp2_with fail
          refine (fault_calls _ _ _ _).mono ?_
          rintro e w3 ⟨g, hg, rfl, hat, hb3⟩
          have hb4 := bcall hb2 hb3
          go_wp2_with fail
          (try simp only [Exit.inBlock, Exit.then])
          (try rw [Exit.noGoto_ret])
          go_ret3
          exact ⟨(textR_bad hNe.out).2 ⟨g, by omega, rfl, hat⟩, hb4⟩
        have c32' : (32 : Int) ≤ (r : Int) := by omega
        have n32 : ¬ (r : Int) < 32 := by omega
        by_cases c92 : r = 92
        · subst c92
          have h92b := h92.out.1 rfl
          have hne : ∀ k, (escAt s (p + 1 + pos)).1 = k + 1 → Q = (k + 1, p + 1 + pos, []) := fun k hk => by
            rw [hQe.out, qAt_eq, if_pos hq2.out, if_neg (by omega), if_neg (by omega), if_pos h92b, if_neg (by omega), hk]
          have hro := fun h => rel_esc HR.out hq2.out hsk.out h92b h
          have hm1 : m = 1 := by
            have := hm.out
            obtain ⟨hw0, _⟩ := brk_next hq2.out HR.out.2.2.2.1
            obtain ⟨_, _, _, _, ⟨h1, _, _⟩ | ⟨_, _, h2⟩⟩ := rune_cases hq2.out hw0
            · omega
            · have := h2 0 (by omega)
              rw [Nat.add_zero] at this
              omega
          have hes := fun h => escAt_ok h92b h
          have E := fun w hE hsc => escape_calls (A := A) (B := B) s (p : Int) b (p + 1 + pos) w hE (Nat.le_trans hs (by decide)) hsc hq2.out
          generalize escAt s (p + 1 + pos) = X at *
          obtain ⟨k, x, n⟩ := X
          simp only at hne hro hes
          replace E := Lib.hid E
          replace hne := Lib.hid hne
          replace hro := Lib.hid hro
          replace hes := Lib.hid hes
          replace hm1 := Lib.hid hm1
          replace h92b := Lib.hid h92b
          clear c34 c32 n32
          go_wp2_with fail
          refine (E.out _ (hE.next hb2) hsc2.out).mono ?_
          rintro e w3 ⟨hr, hb3⟩
          cases k with
          | zero =>
            unfold EscR at hr
            rw [if_pos rfl] at hr
            unfold EscOk at hr
            simp only at hr
            subst hr
            have hb4 := bcall hb2 hb3
            have hz4 := hb3.size
            have hx := hes.out rfl
            have hx2 := scalarN_le hx.2.2.2.1
            replace hx := Lib.hid hx
            have Wr := Lib.hid (fun w h1 h2 => WriteRune_calls w.heap.size w.heap.size (Lib.byteCells acc) (x : Int) w (by omega) (by omega) h1 hlb.out h2)
            have hI3 := Lib.hid (hI2.out.next hb3)
            have hit3 := Lib.hid (iter_next hit2.out hb3)
            go_wp2_with fail
            refine (WriteRune_calls w.heap.size w.heap.size (Lib.byteCells acc) (x : Int) _ (by omega) (by omega) hI3.out hlb.out (by omega)).mono ?_
            rintro e w4 ⟨rfl, hI4, hb5, hk⟩
            have hit4 := hk.iter hit3.out (by omega)
            have hb6 := hb4.trans hb5
            replace hI4 := Lib.hid hI4
            replace hit4 := Lib.hid hit4
            replace hk := Lib.hid hk
            have hn12 : (n : Int) ≤ 12 := by have := hx.out; omega
            go_wp2_with fail
            go_roundw
            case rel => exact ⟨pos + m, p + 1 + pos + n, acc ++ Lib.encodeRune (x : Int), by go_num, Lib.hid (by rw [hm1.out]; exact hro.out (by trivial)), Lib.hid ⟨by rw [Lib.byteCells_append, Lib.byteCells_encodeRune]; exact hI4.out, hit4.out⟩, hb6⟩
            case measure => exact hmu.out _ hit4.out
          | succ k =>
            unfold EscR at hr
            rw [if_neg (by simp)] at hr
            obtain ⟨g, hg, rfl, hat⟩ := hr
            have hNe := Lib.hid (hne.out k rfl)
            have hb4 := bcall hb2 hb3
            go_wp2_with fail
            (try simp only [Exit.inBlock, Exit.then])
            (try rw [Exit.noGoto_ret])
            go_ret3
            exact ⟨(textR_bad hNe.out).2 ⟨g, by omega, rfl, hat⟩, hb4⟩
        · have n92 : ((r : Int) != 92) = true := by simp; omega
          have hro := Lib.hid (rel_rune HR.out hq2.out hr.out hm.out hsk.out c34 (by omega) c92)
          replace c34 := Lib.hid c34
          replace c32 := Lib.hid c32
          replace c92 := Lib.hid c92
          have hr1 : (r : Int) ≤ 1114111 := by omega
          go_wp2_with fail
          refine (WriteRune_calls w.heap.size w.heap.size (Lib.byteCells acc) (r : Int) _ (by omega) (by omega) hI2.out hlb.out (by omega)).mono ?_
          rintro e w4 ⟨rfl, hI4, hb5, hk⟩
          have hit4 := hk.iter hit2.out (by omega)
          have hb6 := hb2.trans hb5
          replace hI4 := Lib.hid hI4
          replace hit4 := Lib.hid hit4
          replace hk := Lib.hid hk
          go_wp2_with fail
          go_roundw
          case rel => exact ⟨pos + m, p + 1 + pos + 1, acc ++ Lib.encodeRune (r : Int), by go_num, hro, Lib.hid ⟨by rw [Lib.byteCells_append, Lib.byteCells_encodeRune]; exact hI4.out, hit4.out⟩, hb6⟩
          case measure => exact hmu.out _ hit4.out
    · have hnx : ∀ ty, (Instr.next (.pointer (some ⟨w.heap.size + 1, 0, none⟩)) true ty).run Tryd.prog wr = _ := fun ty => Lib.run_next_end_at wr (w.heap.size + 1) t pos ty hit hq
      have hNe : Q = (2, s.size, []) := by
        rcases hr5 with ⟨_, h6⟩ | ⟨h5, h6, _⟩
        · rw [h6, qAt_eq, if_neg (by omega)]
        · omega
      have e2 := (hE.next hb).e2
      have e2l := (hE.next hb).l2
      replace hNe := Lib.hid hNe
      replace hit := Lib.hid hit
      replace hI := Lib.hid hI
      replace hsc1 := Lib.hid hsc1
      clear hr1 hr2 hr3 hr4 hr5 HR HB hts1
      go_wp2_with fail
      go_region_held3 (fun w' => w'.cell? ⟨b, 0, none⟩ = some (.string s) ∧ w'.cell? ⟨2, 0, none⟩ = some (.iface 203 (.pointer (some (A 2))))) (go_keep) ((go_at_call 54; refine (fault_calls _ _ _ _).mono ?_; rintro e w3 ⟨g, hg, rfl, hat, hb3⟩; have hb4 : Below w.heap.size w w3 := bcall (by repeat (first | assumption | exact Below.refl _ _ | apply Below.drew | apply below_drewN | apply balloc | (refine Below.setCell ?_ (by first | omega | (simp <;> omega)) _))) hb3; have q1 := (hsc.out.next hb4).s; have q2 := (hE.next hb4).e2))
      all_goals
        have hsz3 := hb.size
        go_wp2_with fail
        (try simp only [Exit.inBlock, Exit.then])
        (try rw [Exit.noGoto_ret])
        go_ret3
        exact ⟨(textR_bad hNe.out).2 ⟨g, by first | omega | (simp at hg; omega), rfl, hat⟩, hb4⟩

end Go.Proofs.YtnldhgkmbighkaaDoor
