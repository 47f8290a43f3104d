/- Lemmas of the proof, put together: Scan5, Scan6, Scan7, ScanPlain2, Scan8, Scan9, Scan10. -/
import Derived.Test.YtibopkodoidjoaaGreatDoorM2
import Derived.Laws.RangeString
import Derived.Lib.BufferMore
import Derived.Maps.AppendAt

/- Package scan: the walk of text. -/
namespace Go.Proofs.YtibopkodoidjoaaGreatDoor
open Go Go.RowKit

theorem BuIs.next {B b : Nat} {bs : List Value} {w w1 : World} (h : BuIs B b bs w) (hb : Below w.heap.size w w1) : BuIs B b bs w1 := by
  have key : ∀ p, Lib.BuilderAt 214 5 B b p bs w → Lib.BuilderAt 214 5 B b p bs w1 := by
    rintro p ⟨h1, v, h2, h3, h4⟩
    refine ⟨h1, v, (hb.block b (ltB h2)).trans h2, ?_, h4⟩
    obtain ⟨r1, r2⟩ := h3
    refine ⟨r1, ?_⟩
    rcases r2 with r2 | ⟨g, cap, cur, hv, hg, hh, r⟩
    · exact Or.inl r2
    · exact Or.inr ⟨g, cap, cur, hv, hg, by rw [hb.block g (ltB hh)]; exact hh, r⟩
  exact h.imp (key _) (key _)
theorem BuIs.iterAt {B b : Nat} {bs : List Value} {w : World} (h : BuIs B b bs w) {k : Nat} {s : ByteArray} {pos : Nat} (hk : w.heap[k]? = some (.stringIter s pos)) (pos' : Nat) : BuIs B b bs (w.iterAt k s pos') := by
  have key : ∀ p, Lib.BuilderAt 214 5 B b p bs w → Lib.BuilderAt 214 5 B b p bs (w.iterAt k s pos') := by
    rintro p ⟨h1, v, h2, h3, h4⟩
    have hne : b ≠ k := fun e => by rw [e, hk] at h2; cases h2
    refine ⟨h1, v, by rw [Lib.iterAt_other _ _ _ _ _ hne]; exact h2, ?_, h4⟩
    obtain ⟨r1, r2⟩ := h3
    refine ⟨r1, ?_⟩
    rcases r2 with r2 | ⟨g, cap, cur, hv, hg, hh, r⟩
    · exact Or.inl r2
    · have hne2 : g ≠ k := fun e => by rw [e, hk] at hh; cases hh
      exact Or.inr ⟨g, cap, cur, hv, hg, by rw [Lib.iterAt_other _ _ _ _ _ hne2]; exact hh, r⟩
  exact h.imp (key _) (key _)
theorem iter_next {w w1 : World} {k : Nat} {s : ByteArray} {pos : Nat} (h : w.heap[k]? = some (.stringIter s pos)) (hb : Below w.heap.size w w1) : w1.heap[k]? = some (.stringIter s pos) := box_next h hb

/-- What text answers. -/
def TextR (A : Nat → Addr) (Q : Nat × Nat × List UInt8) (w : World) (e : Ending) (w' : World) : Prop :=
  if Q.1 = 0 then e = .returned (.tuple #[.string ⟨Q.2.2.toArray⟩, .int .i64 (Q.2.1 : Int), .nilIface])
  else ∃ g, w.heap.size ≤ g ∧ e = .returned (.tuple #[.string ⟨#[]⟩, .int .i64 0, .iface 69 (.pointer (some ⟨g, 0, none⟩))]) ∧ AtB (Q.2.1 : Int) (.iface 237 (.pointer (some (A Q.1)))) g w'
theorem textR_ok {A : Nat → Addr} {Q : Nat × Nat × List UInt8} {i : Nat} {l : List UInt8} {w w' : World} {e : Ending} (h : Q = (0, i, l)) : TextR A Q w e w' ↔ e = .returned (.tuple #[.string ⟨l.toArray⟩, .int .i64 (i : Int), .nilIface]) := by
  subst h; unfold TextR; rw [if_pos rfl]
theorem textR_bad {A : Nat → Addr} {Q : Nat × Nat × List UInt8} {k i : Nat} {l : List UInt8} {w w' : World} {e : Ending} (h : Q = (k + 1, i, l)) : TextR A Q w e w' ↔
    ∃ g, w.heap.size ≤ g ∧ e = .returned (.tuple #[.string ⟨#[]⟩, .int .i64 0, .iface 69 (.pointer (some ⟨g, 0, none⟩))]) ∧ AtB (i : Int) (.iface 237 (.pointer (some (A (k + 1))))) g w' := by
  subst h; unfold TextR; rw [if_neg (by simp)]
/-- Where the loop stands: the rune's place, what has come, the place up to which to go by. -/
def TextRel (s : ByteArray) (a : Nat) (Q : Nat × Nat × List UInt8) (pos next : Nat) (acc : List UInt8) : Prop :=
  a + pos ≤ s.size ∧ next ≤ s.size + 1 ∧ acc.length ≤ 4 * pos ∧ brkAt s (a + pos) = s.size ∧ ((next ≤ a + pos ∧ Q = qAt s (a + pos) acc) ∨ (a + pos < next ∧ next ≤ s.size ∧ Q = qAt s next acc ∧ ∀ j, a + pos + j < next → bAt s (a + pos + j) < 128))
theorem encodeRune_len (r : Int) : (Lib.encodeRune r).length ≤ 4 := by
  unfold Lib.encodeRune
  rw [List.length_map]
  exact (Lib.encodeRuneZ_length r).2
theorem rel_skip {s : ByteArray} {a : Nat} {Q : Nat × Nat × List UInt8} {pos next m : Nat} {acc : List UInt8} (h : TextRel s a Q pos next acc) (hq : a + pos < s.size) (hm : (refAt s (a + pos)).2 = m) (hsk : a + pos < next) : TextRel s a Q (pos + m) next acc := by
  obtain ⟨h1, h2, h3, h4, h5 | ⟨h5, h6, h7, h8⟩⟩ := h
  · omega
  · obtain ⟨hw0, hbn⟩ := brk_next hq h4
    have hb0 := h8 0 (by omega)
    obtain ⟨_, _, _, hw1, ⟨hw2, _, _⟩ | ⟨_, _, hw2⟩⟩ := rune_cases hq hw0
    · rw [hw2] at hm hbn
      subst hm
      refine ⟨by omega, h2, by omega, by rw [← Nat.add_assoc]; exact hbn, ?_⟩
      by_cases he : a + (pos + 1) = next
      · exact Or.inl ⟨by omega, by rw [he]; exact h7⟩
      · exact Or.inr ⟨by omega, h6, h7, fun j hj => by
          have := h8 (j + 1) (by omega)
          rw [show a + (pos + 1) + j = a + pos + (j + 1) by omega]; exact this⟩
    · have := hw2 0 (by omega)
      omega
theorem rel_rune {s : ByteArray} {a : Nat} {Q : Nat × Nat × List UInt8} {pos next r m : Nat} {acc : List UInt8} (h : TextRel s a Q pos next acc) (hq : a + pos < s.size) (hr : (refAt s (a + pos)).1 = r) (hm : (refAt s (a + pos)).2 = m) (hsk : ¬ a + pos < next)
    (h34 : r ≠ 34) (h32 : 32 ≤ r) (h92 : r ≠ 92) : TextRel s a Q (pos + m) (a + pos + 1) (acc ++ Lib.encodeRune (r : Int)) := by
  obtain ⟨h1, h2, h3, h4, ⟨h5, h6⟩ | ⟨h5, _⟩⟩ := h
  · obtain ⟨hw0, hbn⟩ := brk_next hq h4
    obtain ⟨_, _, _, hw1, hw2⟩ := rune_cases hq hw0
    have hk := qAt_rune acc hq hw0 (by rw [hr]; exact h34) (by rw [hr]; exact h32) (by rw [hr]; exact h92)
    have hl := encodeRune_len (r : Int)
    rw [hm] at hbn hw1 hk
    rw [hr] at hk
    refine ⟨by omega, by omega, by rw [List.length_append]; omega, by rw [← Nat.add_assoc]; exact hbn, Or.inl ⟨by omega, ?_⟩⟩
    rw [h6, hk, Nat.add_assoc]
  · omega
theorem rel_esc {s : ByteArray} {a : Nat} {Q : Nat × Nat × List UInt8} {pos next : Nat} {acc : List UInt8} (h : TextRel s a Q pos next acc) (hq : a + pos < s.size) (hsk : ¬ a + pos < next) (h92 : bAt s (a + pos) = 92) (he : (escAt s (a + pos)).1 = 0) :
    TextRel s a Q (pos + 1) (a + pos + (escAt s (a + pos)).2.2) (acc ++ Lib.encodeRune ((escAt s (a + pos)).2.1 : Int)) := by
  obtain ⟨h1, h2, h3, h4, ⟨h5, h6⟩ | ⟨h5, _⟩⟩ := h
  · have hb := brk_ascii h4 hq (by omega)
    have ho := escAt_ok h92 he
    have hl := encodeRune_len ((escAt s (a + pos)).2.1 : Int)
    refine ⟨by omega, by omega, by rw [List.length_append]; omega, hb, Or.inr ⟨by omega, ho.1, ?_, fun j hj => ?_⟩⟩
    · rw [h6, qAt_eq, if_pos hq, if_neg (by omega), if_neg (by omega), if_pos h92, if_pos he, encodeRune_enc ho.2.2.2.1]
    · have := escAt_ascii h92 he (j + 1) (by omega)
      rw [show a + (pos + 1) + j = a + pos + (j + 1) by omega]; exact this
  · omega
theorem rel_at {s : ByteArray} {a : Nat} {Q : Nat × Nat × List UInt8} {pos next : Nat} {acc : List UInt8} (h : TextRel s a Q pos next acc) (hsk : ¬ a + pos < next) : Q = qAt s (a + pos) acc := by
  obtain ⟨_, _, _, _, ⟨_, h6⟩ | ⟨h5, _⟩⟩ := h
  · exact h6
  · omega
set_option maxHeartbeats 8000000 in
set_option maxRecDepth 100000 in
theorem text_calls {A : Nat → Addr} {B : Nat} (s : ByteArray) (p : Nat) (b : Nat) (w : World) (hE : Env A B SJ w) (hs : s.size ≤ 35184372088830) (hsc : ScB s (p : Int) b w) (hp : p < s.size) (hv : brkAt s (p + 1) = s.size) :
    Calls Tryz.prog 102 #[.pointer (some ⟨b, 0, none⟩)] w fun e w' => TextR A (qAt s (p + 1) []) w e w' ∧ Below w.heap.size w w' := by
  have x0 := hsc.s
  have x1 := hsc.at
  have hbl : b < w.heap.size := ltB hsc
  have hp' : (p : Int) + 1 ≤ (s.size : Int) := by omega
  have hs' : (s.size : Int) ≤ 35184372088830 := by omega
  obtain ⟨Q, hQ⟩ : ∃ Q, Q = qAt s (p + 1) [] := ⟨_, rfl⟩
  rw [← hQ]
  replace hQ := Lib.hid hQ
  replace hsc := Lib.hid hsc
  obtain ⟨t, ht⟩ : ∃ t, s.extract (p + 1) s.size = t := ⟨_, rfl⟩
  have hts : Hid (t.size = s.size - (p + 1)) := Lib.hid (by rw [← ht, ByteArray.size_extract]; omega)
  have hts2 : (t.size : Int) ≤ (s.size : Int) := by have := hts.out; omega
  go_enter Tryz.func102, Tryz.ntmps102
  go_wp2_with fail
  go_step3
  go_wp2_with fail
  go_step3
  go_wp2_with fail
  have hQ1 := hQ.out
  go_loopw [7] (fun v7 wr => ∃ (pos next : Nat) (acc : List UInt8), v7 = .int .i64 (next : Int) ∧ Hid (TextRel s (p + 1) Q pos next acc) ∧ Hid (BuIs w.heap.size w.heap.size (Lib.byteCells acc) wr ∧ wr.heap[w.heap.size + 1]? = some (.stringIter t pos)) ∧ Below w.heap.size w wr) (fun _ wr => t.size - wr.iterPos (w.heap.size + 1))
  case atStart =>
    refine ⟨0, p + 1, [], by go_num, Lib.hid ⟨by omega, by omega, by simp, by simpa using hv, Or.inl ⟨by omega, by simpa using hQ1⟩⟩, Lib.hid ⟨?_, ?_⟩, ?_⟩
    · have h0 := Lib.fresh_isBuilder 214 5 w
      exact BuIs.next h0 (balloc (Below.refl _ _))
    · have := World.iter_heap (w.alloc (.cells #[.pointer none, .slice none 0 0] 214)) t 0
      simpa using this
    · exact balloc (balloc (Below.refl _ _))
  case round =>
    obtain ⟨pos, next, acc, rfl, HR, HB, hb⟩ := hrel
    obtain ⟨hr1, hr2, hr3, hr4, hr5⟩ := HR.out
    obtain ⟨hI, hit⟩ := HB.out
    have hts1 := hts.out
    have hsz : w.heap.size + 1 < wr.heap.size := ltB hit
    have hsc1 := hsc.out.next hb
    have y0 := hsc1.s
    by_cases hq : pos < t.size
    · have hq' : p + 1 + pos < s.size := by omega
      obtain ⟨hw0, hbn⟩ := brk_next hq' hr4
      obtain ⟨hsn, _, _, hw1, hw2⟩ := rune_cases hq' hw0
      have hdec : Utf8.decode t pos = refAt s (p + 1 + pos) := by rw [← ht]; exact rune_dec hq' hw0
      have h34 := rune_byte hq' hw0 34 (by decide)
      have h92 := rune_byte hq' hw0 92 (by decide)
      have h32 := rune_low hq' hw0
      have hnx : ∀ ty, (Instr.next (.pointer (some ⟨w.heap.size + 1, 0, none⟩)) true ty).run Tryz.prog wr = _ := fun ty => Lib.run_next_any_at wr (w.heap.size + 1) t pos ty hit hq
      rw [hdec] at hnx
      have hrl := scalarN_le hsn
      obtain ⟨r, hr⟩ : ∃ r, (refAt s (p + 1 + pos)).1 = r := ⟨_, rfl⟩
      obtain ⟨m, hm⟩ : ∃ m, (refAt s (p + 1 + pos)).2 = m := ⟨_, rfl⟩
      rw [hr, hm] at hnx
      rw [hr] at hrl h34 h92 h32
      rw [hm] at hw1
      replace hr := Lib.hid hr
      obtain ⟨W2, hW2⟩ : ∃ W2, W2 = wr.iterAt (w.heap.size + 1) t (pos + m) := ⟨_, rfl⟩
      rw [← hW2] at hnx
      have hI2 : BuIs w.heap.size w.heap.size (Lib.byteCells acc) W2 := by rw [hW2]; exact hI.iterAt hit _
      have hit2 : W2.heap[w.heap.size + 1]? = some (.stringIter t (pos + m)) := by rw [hW2]; exact Lib.iterAt_heap wr _ t pos _ hit
      have hb2 : Below w.heap.size w W2 := by rw [hW2]; exact Lib.below_iterAt hb (by omega) t _
      have hz2 : w.heap.size + 1 < W2.heap.size := ltB hit2
      have hm1 : 1 ≤ m := by
        rw [hm] at hw2; omega
      have hmu : ∀ W3 : World, W3.heap[w.heap.size + 1]? = some (.stringIter t (pos + m)) → t.size - W3.iterPos (w.heap.size + 1) < t.size - wr.iterPos (w.heap.size + 1) := by
        intro W3 h3
        simp only [World.iterPos, hit, h3]; omega
      have hlb : (Lib.byteCells acc).length + 4 ≤ 140737488355328 := by rw [Lib.byteCells_length]; omega
      replace hm := Lib.hid hm
      replace hmu := Lib.hid hmu
      replace hit2 := Lib.hid hit2
      replace hI2 := Lib.hid hI2
      replace h34 := Lib.hid h34
      replace h92 := Lib.hid h92
      replace h32 := Lib.hid h32
      replace hlb := Lib.hid hlb
      replace hts1 := Lib.hid hts1
      replace ht := Lib.hid ht
      have hq2 := Lib.hid hq'
      have hsc2 := Lib.hid (hsc.out.next hb2)
      have z0 := hsc2.out.s
      clear hW2 hb hsz HB hI hit hr1 hr2 hr3 hr4 hr5 hsn hw2 hbn hw0 hdec hsc1 y0 hm1
      by_cases hsk : p + 1 + pos < next
      · have hsk' : (p : Int) + 1 + (pos : Int) < (next : Int) := by omega
        replace hsk := Lib.hid hsk
        go_wp2_with fail
        go_roundw
        case rel => exact ⟨pos + m, next, acc, rfl, Lib.hid (rel_skip HR.out hq2.out hm.out hsk.out), Lib.hid ⟨hI2.out, hit2.out⟩, hb2⟩
        case measure => exact hmu.out _ hit2.out
      · have hsk' : (next : Int) ≤ (p : Int) + 1 + (pos : Int) := by omega
        have hQe := Lib.hid (rel_at HR.out hsk)
        replace hsk := Lib.hid hsk
        have e2 := (hE.next hb2).e2
        by_cases c34 : r = 34
        · subst c34
          have hNe : Q = (0, p + 1 + pos + 1, acc) := by rw [hQe.out, qAt_eq, if_pos hq2.out, if_pos (h34.out.1 rfl)]
          replace hNe := Lib.hid hNe
          go_wp2_with fail
          refine (Tryz.Builder_String_any_k w.heap.size w.heap.size acc _ (Lib.IsBuilderF.of hI2.out) (by omega)).mono ?_
          rintro e w3 ⟨rfl, _, b3, _⟩
          go_wp2_with fail
          (try simp only [Exit.inBlock, Exit.then])
          (try rw [Exit.noGoto_ret])
          go_ret3
          exact ⟨(textR_ok hNe.out).2 rfl, hb2.trans b3⟩
        have n34 : ((r : Int) == 34) = false := by simp; omega
        by_cases c32 : r < 32
        · have hNe : Q = (2, p + 1 + pos, []) := by
            have h1 : ¬ bAt s (p + 1 + pos) = 34 := fun h => c34 (h34.out.2 h)
            rw [hQe.out, qAt_eq, if_pos hq2.out, if_neg h1, if_pos (h32.out.1 c32)]
          have hNe := Lib.hid hNe
          replace c34 := Lib.hid c34
          have c32' : (r : Int) < 32 := by omega
          replace c32 := Lib.hid c32
          go_wp2_with fail
          refine (fault_calls _ _ _ _).mono ?_
          rintro e w3 ⟨g, hg, rfl, hat, hb3⟩
          have hb4 := bcall hb2 hb3
          go_wp2_with fail
          (try simp only [Exit.inBlock, Exit.then])
          (try rw [Exit.noGoto_ret])
          go_ret3
          exact ⟨(textR_bad hNe.out).2 ⟨g, by omega, rfl, hat⟩, hb4⟩
        have c32' : (32 : Int) ≤ (r : Int) := by omega
        have n32 : ¬ (r : Int) < 32 := by omega
        by_cases c92 : r = 92
        · subst c92
          have h92b := h92.out.1 rfl
          have hne : ∀ k, (escAt s (p + 1 + pos)).1 = k + 1 → Q = (k + 1, p + 1 + pos, []) := fun k hk => by
            rw [hQe.out, qAt_eq, if_pos hq2.out, if_neg (by omega), if_neg (by omega), if_pos h92b, if_neg (by omega), hk]
          have hro := fun h => rel_esc HR.out hq2.out hsk.out h92b h
          have hm1 : m = 1 := by
            have := hm.out
            obtain ⟨hw0, _⟩ := brk_next hq2.out HR.out.2.2.2.1
            obtain ⟨_, _, _, _, ⟨h1, _, _⟩ | ⟨_, _, h2⟩⟩ := rune_cases hq2.out hw0
            · omega
            · have := h2 0 (by omega)
              rw [Nat.add_zero] at this
              omega
          have hes := fun h => escAt_ok h92b h
          have E := fun w hE hsc => escape_calls (A := A) (B := B) s (p : Int) b (p + 1 + pos) w hE (Nat.le_trans hs (by decide)) hsc hq2.out
          generalize escAt s (p + 1 + pos) = X at *
          obtain ⟨k, x, n⟩ := X
          simp only at hne hro hes
          replace E := Lib.hid E
          replace hne := Lib.hid hne
          replace hro := Lib.hid hro
          replace hes := Lib.hid hes
          replace hm1 := Lib.hid hm1
          replace h92b := Lib.hid h92b
          clear c34 c32 n32
          go_wp2_with fail
          refine (E.out _ (hE.next hb2) hsc2.out).mono ?_
          rintro e w3 ⟨hr, hb3⟩
          cases k with
          | zero =>
            unfold EscR at hr
            rw [if_pos rfl] at hr
            unfold EscOk at hr
            simp only at hr
            subst hr
            have hb4 := bcall hb2 hb3
            have hz4 := hb3.size
            have hx := hes.out rfl
            have hx2 := scalarN_le hx.2.2.2.1
            replace hx := Lib.hid hx
            have Wr := Lib.hid (fun w h1 h2 => WriteRune_calls w.heap.size w.heap.size (Lib.byteCells acc) (x : Int) w (by omega) (by omega) h1 hlb.out h2)
            have hI3 := Lib.hid (hI2.out.next hb3)
            have hit3 := Lib.hid (iter_next hit2.out hb3)
            go_wp2_with fail
            refine (WriteRune_calls w.heap.size w.heap.size (Lib.byteCells acc) (x : Int) _ (by omega) (by omega) hI3.out hlb.out (by omega)).mono ?_
            rintro e w4 ⟨rfl, hI4, hb5, hk⟩
            have hit4 := hk.iter hit3.out (by omega)
            have hb6 := hb4.trans hb5
            replace hI4 := Lib.hid hI4
            replace hit4 := Lib.hid hit4
            replace hk := Lib.hid hk
            have hn12 : (n : Int) ≤ 12 := by have := hx.out; omega
            go_wp2_with fail
            go_roundw
            case rel => exact ⟨pos + m, p + 1 + pos + n, acc ++ Lib.encodeRune (x : Int), by go_num, Lib.hid (by rw [hm1.out]; exact hro.out (by trivial)), Lib.hid ⟨by rw [Lib.byteCells_append, Lib.byteCells_encodeRune]; exact hI4.out, hit4.out⟩, hb6⟩
            case measure => exact hmu.out _ hit4.out
          | succ k =>
            unfold EscR at hr
            rw [if_neg (by simp)] at hr
            obtain ⟨g, hg, rfl, hat⟩ := hr
            have hNe := Lib.hid (hne.out k rfl)
            have hb4 := bcall hb2 hb3
            go_wp2_with fail
            (try simp only [Exit.inBlock, Exit.then])
            (try rw [Exit.noGoto_ret])
            go_ret3
            exact ⟨(textR_bad hNe.out).2 ⟨g, by omega, rfl, hat⟩, hb4⟩
        · have n92 : ((r : Int) != 92) = true := by simp; omega
          have hro := Lib.hid (rel_rune HR.out hq2.out hr.out hm.out hsk.out c34 (by omega) c92)
          replace c34 := Lib.hid c34
          replace c32 := Lib.hid c32
          replace c92 := Lib.hid c92
          have hr1 : (r : Int) ≤ 1114111 := by omega
          go_wp2_with fail
          refine (WriteRune_calls w.heap.size w.heap.size (Lib.byteCells acc) (r : Int) _ (by omega) (by omega) hI2.out hlb.out (by omega)).mono ?_
          rintro e w4 ⟨rfl, hI4, hb5, hk⟩
          have hit4 := hk.iter hit2.out (by omega)
          have hb6 := hb2.trans hb5
          replace hI4 := Lib.hid hI4
          replace hit4 := Lib.hid hit4
          replace hk := Lib.hid hk
          go_wp2_with fail
          go_roundw
          case rel => exact ⟨pos + m, p + 1 + pos + 1, acc ++ Lib.encodeRune (r : Int), by go_num, hro, Lib.hid ⟨by rw [Lib.byteCells_append, Lib.byteCells_encodeRune]; exact hI4.out, hit4.out⟩, hb6⟩
          case measure => exact hmu.out _ hit4.out
    · have hnx : ∀ ty, (Instr.next (.pointer (some ⟨w.heap.size + 1, 0, none⟩)) true ty).run Tryz.prog wr = _ := fun ty => Lib.run_next_end_at wr (w.heap.size + 1) t pos ty hit hq
      have hNe : Q = (2, s.size, []) := by
        rcases hr5 with ⟨_, h6⟩ | ⟨h5, h6, _⟩
        · rw [h6, qAt_eq, if_neg (by omega)]
        · omega
      have e2 := (hE.next hb).e2
      have e2l := (hE.next hb).l2
      replace hNe := Lib.hid hNe
      replace hit := Lib.hid hit
      replace hI := Lib.hid hI
      replace hsc1 := Lib.hid hsc1
      clear hr1 hr2 hr3 hr4 hr5 HR HB hts1
      go_wp2_with fail
      go_region_held3 (fun w' => w'.cell? ⟨b, 0, none⟩ = some (.string s) ∧ w'.cell? ⟨0, 0, none⟩ = some (.iface 237 (.pointer (some (A 2))))) (go_keep) ((go_at_call 80; refine (fault_calls _ _ _ _).mono ?_; rintro e w3 ⟨g, hg, rfl, hat, hb3⟩; have hb4 : Below w.heap.size w w3 := bcall (by repeat (first | assumption | exact Below.refl _ _ | apply Below.drew | apply below_drewN | apply balloc | (refine Below.setCell ?_ (by first | omega | (simp <;> omega)) _))) hb3; have q1 := (hsc.out.next hb4).s; have q2 := (hE.next hb4).e2))
      all_goals
        have hsz3 := hb.size
        go_wp2_with fail
        (try simp only [Exit.inBlock, Exit.then])
        (try rw [Exit.noGoto_ret])
        go_ret3
        exact ⟨(textR_bad hNe.out).2 ⟨g, by first | omega | (simp at hg; omega), rfl, hat⟩, hb4⟩

end Go.Proofs.YtibopkodoidjoaaGreatDoor

/- Package scan: the walk of next. -/
namespace Go.Proofs.YtibopkodoidjoaaGreatDoor
open Go Go.RowKit

def tkV (t : Tk) : Value := .agg #[.int .i64 (t.kind : Int), .int .i64 (t.fr : Int), .int .i64 (t.to : Int), .string t.text]
/-- What next answers. -/
def NextBad (A : Nat → Addr) (k i : Nat) (w : World) (e : Ending) (w' : World) : Prop :=
  ∃ g, w.heap.size ≤ g ∧ e = .returned (.tuple #[.agg #[.int .i64 0, .int .i64 0, .int .i64 0, .string ⟨#[]⟩], .iface 69 (.pointer (some ⟨g, 0, none⟩))]) ∧ AtB (i : Int) (.iface 237 (.pointer (some (A k)))) g w'
def NextR (A : Nat → Addr) (O : Nat × Nat × Tk) (w : World) (e : Ending) (w' : World) : Prop := if O.1 = 0 then e = .returned (.tuple #[tkV O.2.2, .nilIface]) else NextBad A O.1 O.2.1 w e w'
theorem nextR_ok {A : Nat → Addr} {O : Nat × Nat × Tk} {t : Tk} {i : Nat} {w w' : World} {e : Ending} (h : O = (0, i, t)) : NextR A O w e w' ↔ e = .returned (.tuple #[tkV t, .nilIface]) := by
  subst h; unfold NextR; rw [if_pos rfl]
theorem nextR_bad {A : Nat → Addr} {O : Nat × Nat × Tk} {t : Tk} {k i : Nat} {w w' : World} {e : Ending} (h : O = (k + 1, i, t)) : NextR A O w e w' ↔ NextBad A (k + 1) i w e w' := by
  subst h; unfold NextR; rw [if_neg (by simp)]
set_option maxHeartbeats 2000000 in
set_option maxRecDepth 100000 in
theorem next_sign (s : ByteArray) (p b : Nat) (w : World) (hs : s.size ≤ 35184372088830) (hsc : ScB s (p : Int) b w) (hp : p < s.size) (hk : signK (bAt s p) ≠ 0) :
    Calls Tryz.prog 82 #[.pointer (some ⟨b, 0, none⟩)] w fun e w' => e = .returned (.tuple #[tkV ⟨signK (bAt s p), p, p + 1, noS⟩, .nilIface]) ∧ Below w.heap.size w w' := by
  have x0 := hsc.s
  have x1 := hsc.at
  have hbl : b < w.heap.size := ltB hsc
  have hx := byte_at s p
  have hp' : (p : Int) < (s.size : Int) := by omega
  have hs' : (s.size : Int) ≤ 35184372088830 := by omega
  replace hsc := Lib.hid hsc
  have O := fun w => one_calls (bAt s p) w
  generalize bAt s p = c at *
  generalize signK c = k at *
  have hk' : ((k : Int) != 0) = true := by simp; omega
  replace hk := Lib.hid hk
  replace O := Lib.hid O
  go_enter Tryz.func82, Tryz.ntmps82
  (go_wp2_with fail; repeat (any_goals (go_quiet (fail); go_wp2_with fail)))
  refine (O.out _).mono ?_
  rintro e w1 ⟨rfl, hw⟩
  have hb1 : Below w.heap.size w w1 := by rw [hw]; exact (by repeat (first | assumption | exact Below.refl _ _ | apply Below.drew | apply below_drewN | apply balloc | (refine Below.setCell ?_ (by first | omega | (simp <;> omega)) _)))
  have y0 : w1.cell? ⟨b, 0, none⟩ = some (.string s) := (hsc.out.next hb1).s
  have y1 := (hsc.out.next hb1).at
  have hv : w1.heap[w.heap.size]? = some (.cells #[.int .i64 0, .int .i64 0, .int .i64 0, .string ⟨#[]⟩] 59 (0, 0)) := by rw [hw]; exact heap_alloc_new w _
  have v0 := cellB hv 0 rfl
  have v1 := cellB hv 1 rfl
  have v2 := cellB hv 2 rfl
  have v3 := cellB hv 3 rfl
  have f0 := freeB hv 0
  have f1 := freeB hv 1
  have f2 := freeB hv 2
  have f3 := freeB hv 3
  have hvl := ltB hv
  replace hv := Lib.hid hv
  clear hw x0 x1
  (go_wp2_with fail; repeat (any_goals (go_quiet (fail); go_wp2_with fail)))
  refine bodyPost_ret (v := .tuple #[.agg #[.int .i64 (k : Int), .int .i64 (p : Int), .int .i64 ((p : Int) + 1), .string ⟨#[]⟩], .nilIface]) ?_ rfl ⟨?_, (by repeat (first | assumption | exact Below.refl _ _ | apply Below.drew | apply below_drewN | apply balloc | (refine Below.setCell ?_ (by first | omega | (simp <;> omega)) _)))⟩
  · simp [results, Tryz.results82, go_sem, *]
  show _ = Ending.returned (.tuple #[tkV ⟨k, p, p + 1, noS⟩, .nilIface])
  unfold tkV
  simp [noS]

set_option maxHeartbeats 2000000 in
set_option maxRecDepth 100000 in
theorem next_null (s : ByteArray) (p b : Nat) (w : World) (hs : s.size ≤ 35184372088830) (hsc : ScB s (p : Int) b w) (hp : p < s.size) (hc : bAt s p = 110) (hpf : Lib.hasPrefix (s.extract p s.size).data.toList [110, 117, 108, 108] = true) :
    Calls Tryz.prog 82 #[.pointer (some ⟨b, 0, none⟩)] w fun e w' => e = .returned (.tuple #[tkV ⟨1, p, p + 4, noS⟩, .nilIface]) ∧ Below w.heap.size w w' := by
  have x0 := hsc.s
  have x1 := hsc.at
  have hbl : b < w.heap.size := ltB hsc
  have hx := byte_at s p
  have hp' : (p : Int) < (s.size : Int) := by omega
  have hs' : (s.size : Int) ≤ 35184372088830 := by omega
  replace hsc := Lib.hid hsc
  have O := fun w => one_calls (bAt s p) w
  have W := fun w => word_calls (bAt s p) w
  rw [show signK (bAt s p) = 0 by rw [hc]; rfl] at O
  rw [show wordS (bAt s p) = ⟨#[110, 117, 108, 108]⟩ by rw [hc]; rfl, show wordK (bAt s p) = 1 by rw [hc]; rfl] at W
  have H := fun w => Tryz.strings_HasPrefix (s.extract p s.size) ⟨#[110, 117, 108, 108]⟩ w
  simp only [hpf] at H
  generalize bAt s p = c at *
  replace hc := Lib.hid hc
  replace hpf := Lib.hid hpf
  replace O := Lib.hid O
  replace W := Lib.hid W
  replace H := Lib.hid H
  go_enter Tryz.func82, Tryz.ntmps82
  (go_wp2_with fail; repeat (any_goals (go_quiet (fail); go_wp2_with fail)))
  refine (O.out _).mono ?_
  rintro e w1 ⟨rfl, hw⟩
  have hb1 : Below w.heap.size w w1 := by rw [hw]; exact (by repeat (first | assumption | exact Below.refl _ _ | apply Below.drew | apply below_drewN | apply balloc | (refine Below.setCell ?_ (by first | omega | (simp <;> omega)) _)))
  have y0 : w1.cell? ⟨b, 0, none⟩ = some (.string s) := (hsc.out.next hb1).s
  have y1 := (hsc.out.next hb1).at
  have hv : w1.heap[w.heap.size]? = some (.cells #[.int .i64 0, .int .i64 0, .int .i64 0, .string ⟨#[]⟩] 59 (0, 0)) := by rw [hw]; exact heap_alloc_new w _
  have v0 := cellB hv 0 rfl
  have v1 := cellB hv 1 rfl
  have v2 := cellB hv 2 rfl
  have v3 := cellB hv 3 rfl
  have f0 := freeB hv 0
  have f1 := freeB hv 1
  have f2 := freeB hv 2
  have f3 := freeB hv 3
  have hvl := ltB hv
  replace hv := Lib.hid hv
  clear hw x0 x1
  (go_wp2_with fail; repeat (any_goals (go_quiet (fail); go_wp2_with fail)))
  refine (W.out _).mono ?_
  rintro e w2 ⟨rfl, rfl⟩
  (go_wp2_with fail; repeat (any_goals (go_quiet (fail); go_wp2_with fail)))
  refine (H.out _).mono ?_
  rintro e w3 ⟨rfl, rfl⟩
  (go_wp2_with fail; repeat (any_goals (go_quiet (fail); go_wp2_with fail)))
  refine bodyPost_ret (v := .tuple #[.agg #[.int .i64 (1 : Int), .int .i64 (p : Int), .int .i64 ((p : Int) + 4), .string ⟨#[]⟩], .nilIface]) ?_ rfl ⟨?_, (by repeat (first | assumption | exact Below.refl _ _ | apply Below.drew | apply below_drewN | apply balloc | (refine Below.setCell ?_ (by first | omega | (simp <;> omega)) _)))⟩
  · simp [results, Tryz.results82, go_sem, *]
  unfold tkV
  simp [noS]
set_option maxHeartbeats 2000000 in
set_option maxRecDepth 100000 in
theorem next_true (s : ByteArray) (p b : Nat) (w : World) (hs : s.size ≤ 35184372088830) (hsc : ScB s (p : Int) b w) (hp : p < s.size) (hc : bAt s p = 116) (hpf : Lib.hasPrefix (s.extract p s.size).data.toList [116, 114, 117, 101] = true) :
    Calls Tryz.prog 82 #[.pointer (some ⟨b, 0, none⟩)] w fun e w' => e = .returned (.tuple #[tkV ⟨2, p, p + 4, noS⟩, .nilIface]) ∧ Below w.heap.size w w' := by
  have x0 := hsc.s
  have x1 := hsc.at
  have hbl : b < w.heap.size := ltB hsc
  have hx := byte_at s p
  have hp' : (p : Int) < (s.size : Int) := by omega
  have hs' : (s.size : Int) ≤ 35184372088830 := by omega
  replace hsc := Lib.hid hsc
  have O := fun w => one_calls (bAt s p) w
  have W := fun w => word_calls (bAt s p) w
  rw [show signK (bAt s p) = 0 by rw [hc]; rfl] at O
  rw [show wordS (bAt s p) = ⟨#[116, 114, 117, 101]⟩ by rw [hc]; rfl, show wordK (bAt s p) = 2 by rw [hc]; rfl] at W
  have H := fun w => Tryz.strings_HasPrefix (s.extract p s.size) ⟨#[116, 114, 117, 101]⟩ w
  simp only [hpf] at H
  generalize bAt s p = c at *
  replace hc := Lib.hid hc
  replace hpf := Lib.hid hpf
  replace O := Lib.hid O
  replace W := Lib.hid W
  replace H := Lib.hid H
  go_enter Tryz.func82, Tryz.ntmps82
  (go_wp2_with fail; repeat (any_goals (go_quiet (fail); go_wp2_with fail)))
  refine (O.out _).mono ?_
  rintro e w1 ⟨rfl, hw⟩
  have hb1 : Below w.heap.size w w1 := by rw [hw]; exact (by repeat (first | assumption | exact Below.refl _ _ | apply Below.drew | apply below_drewN | apply balloc | (refine Below.setCell ?_ (by first | omega | (simp <;> omega)) _)))
  have y0 : w1.cell? ⟨b, 0, none⟩ = some (.string s) := (hsc.out.next hb1).s
  have y1 := (hsc.out.next hb1).at
  have hv : w1.heap[w.heap.size]? = some (.cells #[.int .i64 0, .int .i64 0, .int .i64 0, .string ⟨#[]⟩] 59 (0, 0)) := by rw [hw]; exact heap_alloc_new w _
  have v0 := cellB hv 0 rfl
  have v1 := cellB hv 1 rfl
  have v2 := cellB hv 2 rfl
  have v3 := cellB hv 3 rfl
  have f0 := freeB hv 0
  have f1 := freeB hv 1
  have f2 := freeB hv 2
  have f3 := freeB hv 3
  have hvl := ltB hv
  replace hv := Lib.hid hv
  clear hw x0 x1
  (go_wp2_with fail; repeat (any_goals (go_quiet (fail); go_wp2_with fail)))
  refine (W.out _).mono ?_
  rintro e w2 ⟨rfl, rfl⟩
  (go_wp2_with fail; repeat (any_goals (go_quiet (fail); go_wp2_with fail)))
  refine (H.out _).mono ?_
  rintro e w3 ⟨rfl, rfl⟩
  (go_wp2_with fail; repeat (any_goals (go_quiet (fail); go_wp2_with fail)))
  refine bodyPost_ret (v := .tuple #[.agg #[.int .i64 (2 : Int), .int .i64 (p : Int), .int .i64 ((p : Int) + 4), .string ⟨#[]⟩], .nilIface]) ?_ rfl ⟨?_, (by repeat (first | assumption | exact Below.refl _ _ | apply Below.drew | apply below_drewN | apply balloc | (refine Below.setCell ?_ (by first | omega | (simp <;> omega)) _)))⟩
  · simp [results, Tryz.results82, go_sem, *]
  unfold tkV
  simp [noS]
set_option maxHeartbeats 2000000 in
set_option maxRecDepth 100000 in
theorem next_false (s : ByteArray) (p b : Nat) (w : World) (hs : s.size ≤ 35184372088830) (hsc : ScB s (p : Int) b w) (hp : p < s.size) (hc : bAt s p = 102) (hpf : Lib.hasPrefix (s.extract p s.size).data.toList [102, 97, 108, 115, 101] = true) :
    Calls Tryz.prog 82 #[.pointer (some ⟨b, 0, none⟩)] w fun e w' => e = .returned (.tuple #[tkV ⟨3, p, p + 5, noS⟩, .nilIface]) ∧ Below w.heap.size w w' := by
  have x0 := hsc.s
  have x1 := hsc.at
  have hbl : b < w.heap.size := ltB hsc
  have hx := byte_at s p
  have hp' : (p : Int) < (s.size : Int) := by omega
  have hs' : (s.size : Int) ≤ 35184372088830 := by omega
  replace hsc := Lib.hid hsc
  have O := fun w => one_calls (bAt s p) w
  have W := fun w => word_calls (bAt s p) w
  rw [show signK (bAt s p) = 0 by rw [hc]; rfl] at O
  rw [show wordS (bAt s p) = ⟨#[102, 97, 108, 115, 101]⟩ by rw [hc]; rfl, show wordK (bAt s p) = 3 by rw [hc]; rfl] at W
  have H := fun w => Tryz.strings_HasPrefix (s.extract p s.size) ⟨#[102, 97, 108, 115, 101]⟩ w
  simp only [hpf] at H
  generalize bAt s p = c at *
  replace hc := Lib.hid hc
  replace hpf := Lib.hid hpf
  replace O := Lib.hid O
  replace W := Lib.hid W
  replace H := Lib.hid H
  go_enter Tryz.func82, Tryz.ntmps82
  (go_wp2_with fail; repeat (any_goals (go_quiet (fail); go_wp2_with fail)))
  refine (O.out _).mono ?_
  rintro e w1 ⟨rfl, hw⟩
  have hb1 : Below w.heap.size w w1 := by rw [hw]; exact (by repeat (first | assumption | exact Below.refl _ _ | apply Below.drew | apply below_drewN | apply balloc | (refine Below.setCell ?_ (by first | omega | (simp <;> omega)) _)))
  have y0 : w1.cell? ⟨b, 0, none⟩ = some (.string s) := (hsc.out.next hb1).s
  have y1 := (hsc.out.next hb1).at
  have hv : w1.heap[w.heap.size]? = some (.cells #[.int .i64 0, .int .i64 0, .int .i64 0, .string ⟨#[]⟩] 59 (0, 0)) := by rw [hw]; exact heap_alloc_new w _
  have v0 := cellB hv 0 rfl
  have v1 := cellB hv 1 rfl
  have v2 := cellB hv 2 rfl
  have v3 := cellB hv 3 rfl
  have f0 := freeB hv 0
  have f1 := freeB hv 1
  have f2 := freeB hv 2
  have f3 := freeB hv 3
  have hvl := ltB hv
  replace hv := Lib.hid hv
  clear hw x0 x1
  (go_wp2_with fail; repeat (any_goals (go_quiet (fail); go_wp2_with fail)))
  refine (W.out _).mono ?_
  rintro e w2 ⟨rfl, rfl⟩
  (go_wp2_with fail; repeat (any_goals (go_quiet (fail); go_wp2_with fail)))
  refine (H.out _).mono ?_
  rintro e w3 ⟨rfl, rfl⟩
  (go_wp2_with fail; repeat (any_goals (go_quiet (fail); go_wp2_with fail)))
  refine bodyPost_ret (v := .tuple #[.agg #[.int .i64 (3 : Int), .int .i64 (p : Int), .int .i64 ((p : Int) + 5), .string ⟨#[]⟩], .nilIface]) ?_ rfl ⟨?_, (by repeat (first | assumption | exact Below.refl _ _ | apply Below.drew | apply below_drewN | apply balloc | (refine Below.setCell ?_ (by first | omega | (simp <;> omega)) _)))⟩
  · simp [results, Tryz.results82, go_sem, *]
  unfold tkV
  simp [noS]
set_option maxHeartbeats 2000000 in
set_option maxRecDepth 100000 in
theorem next_null_bad {A : Nat → Addr} {B : Nat} (s : ByteArray) (p b : Nat) (w : World) (hE : Env A B SJ w) (hs : s.size ≤ 35184372088830) (hsc : ScB s (p : Int) b w) (hp : p < s.size) (hc : bAt s p = 110) (hpf : Lib.hasPrefix (s.extract p s.size).data.toList [110, 117, 108, 108] = false) :
    Calls Tryz.prog 82 #[.pointer (some ⟨b, 0, none⟩)] w fun e w' => NextBad A 2 p w e w' ∧ Below w.heap.size w w' := by
  have x0 := hsc.s
  have x1 := hsc.at
  have hbl : b < w.heap.size := ltB hsc
  have hx := byte_at s p
  have hp' : (p : Int) < (s.size : Int) := by omega
  have hs' : (s.size : Int) ≤ 35184372088830 := by omega
  replace hsc := Lib.hid hsc
  have O := fun w => one_calls (bAt s p) w
  have W := fun w => word_calls (bAt s p) w
  rw [show signK (bAt s p) = 0 by rw [hc]; rfl] at O
  rw [show wordS (bAt s p) = ⟨#[110, 117, 108, 108]⟩ by rw [hc]; rfl, show wordK (bAt s p) = 1 by rw [hc]; rfl] at W
  have H := fun w => Tryz.strings_HasPrefix (s.extract p s.size) ⟨#[110, 117, 108, 108]⟩ w
  simp only [hpf] at H
  generalize bAt s p = c at *
  replace hc := Lib.hid hc
  replace hpf := Lib.hid hpf
  replace O := Lib.hid O
  replace W := Lib.hid W
  replace H := Lib.hid H
  go_enter Tryz.func82, Tryz.ntmps82
  (go_wp2_with fail; repeat (any_goals (go_quiet (fail); go_wp2_with fail)))
  refine (O.out _).mono ?_
  rintro e w1 ⟨rfl, hw⟩
  have hb1 : Below w.heap.size w w1 := by rw [hw]; exact (by repeat (first | assumption | exact Below.refl _ _ | apply Below.drew | apply below_drewN | apply balloc | (refine Below.setCell ?_ (by first | omega | (simp <;> omega)) _)))
  have y0 : w1.cell? ⟨b, 0, none⟩ = some (.string s) := (hsc.out.next hb1).s
  have y1 := (hsc.out.next hb1).at
  have hv : w1.heap[w.heap.size]? = some (.cells #[.int .i64 0, .int .i64 0, .int .i64 0, .string ⟨#[]⟩] 59 (0, 0)) := by rw [hw]; exact heap_alloc_new w _
  have v0 := cellB hv 0 rfl
  have v1 := cellB hv 1 rfl
  have v2 := cellB hv 2 rfl
  have v3 := cellB hv 3 rfl
  have f0 := freeB hv 0
  have f1 := freeB hv 1
  have f2 := freeB hv 2
  have f3 := freeB hv 3
  have hvl := ltB hv
  replace hv := Lib.hid hv
  clear hw x0 x1
  (go_wp2_with fail; repeat (any_goals (go_quiet (fail); go_wp2_with fail)))
  refine (W.out _).mono ?_
  rintro e w2 ⟨rfl, rfl⟩
  (go_wp2_with fail; repeat (any_goals (go_quiet (fail); go_wp2_with fail)))
  refine (H.out _).mono ?_
  rintro e w3 ⟨rfl, rfl⟩
  have e2 := (hE.next hb1).e2
  (go_wp2_with fail; repeat (any_goals (go_quiet (fail); go_wp2_with fail)))
  refine (fault_calls _ _ _ _).mono ?_
  rintro e w4 ⟨g, hg, rfl, hat, hb⟩
  have hg2 : w.heap.size + 1 ≤ g := Nat.le_trans hvl hg
  have hv2 := box_next hv.out hb
  have u0 := cellB hv2 0 rfl
  have u1 := cellB hv2 1 rfl
  have u2 := cellB hv2 2 rfl
  have u3 := cellB hv2 3 rfl
  have g0 := freeB hv2 0
  have g1 := freeB hv2 1
  have g2 := freeB hv2 2
  have g3 := freeB hv2 3
  have hvl2 := ltB hv2
  replace hv2 := Lib.hid hv2
  clear v0 v1 v2 v3 f0 f1 f2 f3 hvl
  replace hat := Lib.hid hat
  have hb4 : Below w.heap.size w w4 := bcall (by repeat (first | assumption | exact Below.refl _ _ | apply Below.drew | apply below_drewN | apply balloc | (refine Below.setCell ?_ (by first | omega | (simp <;> omega)) _))) hb
  clear hb
  (go_wp2_with fail; repeat (any_goals (go_quiet (fail); go_wp2_with fail)))
  refine bodyPost_ret (v := .tuple #[.agg #[.int .i64 0, .int .i64 0, .int .i64 0, .string ⟨#[]⟩], .iface 69 (.pointer (some ⟨g, 0, none⟩))]) ?_ rfl ⟨⟨g, by omega, rfl, ?_⟩, (by repeat (first | assumption | exact Below.refl _ _ | apply Below.drew | apply below_drewN | apply balloc | (refine Below.setCell ?_ (by first | omega | (simp <;> omega)) _)))⟩
  · simp [results, Tryz.results82, go_sem, *]
  · unfold AtB
    have := hat.out
    unfold AtB at this
    rw [Below.heap_setCell _ _ _ _ (by simp; omega), Below.heap_setCell _ _ _ _ (by simp; omega), Below.heap_setCell _ _ _ _ (by simp; omega), Below.heap_setCell _ _ _ _ (by simp; omega)]
    exact this
set_option maxHeartbeats 2000000 in
set_option maxRecDepth 100000 in
theorem next_true_bad {A : Nat → Addr} {B : Nat} (s : ByteArray) (p b : Nat) (w : World) (hE : Env A B SJ w) (hs : s.size ≤ 35184372088830) (hsc : ScB s (p : Int) b w) (hp : p < s.size) (hc : bAt s p = 116) (hpf : Lib.hasPrefix (s.extract p s.size).data.toList [116, 114, 117, 101] = false) :
    Calls Tryz.prog 82 #[.pointer (some ⟨b, 0, none⟩)] w fun e w' => NextBad A 2 p w e w' ∧ Below w.heap.size w w' := by
  have x0 := hsc.s
  have x1 := hsc.at
  have hbl : b < w.heap.size := ltB hsc
  have hx := byte_at s p
  have hp' : (p : Int) < (s.size : Int) := by omega
  have hs' : (s.size : Int) ≤ 35184372088830 := by omega
  replace hsc := Lib.hid hsc
  have O := fun w => one_calls (bAt s p) w
  have W := fun w => word_calls (bAt s p) w
  rw [show signK (bAt s p) = 0 by rw [hc]; rfl] at O
  rw [show wordS (bAt s p) = ⟨#[116, 114, 117, 101]⟩ by rw [hc]; rfl, show wordK (bAt s p) = 2 by rw [hc]; rfl] at W
  have H := fun w => Tryz.strings_HasPrefix (s.extract p s.size) ⟨#[116, 114, 117, 101]⟩ w
  simp only [hpf] at H
  generalize bAt s p = c at *
  replace hc := Lib.hid hc
  replace hpf := Lib.hid hpf
  replace O := Lib.hid O
  replace W := Lib.hid W
  replace H := Lib.hid H
  go_enter Tryz.func82, Tryz.ntmps82
  (go_wp2_with fail; repeat (any_goals (go_quiet (fail); go_wp2_with fail)))
  refine (O.out _).mono ?_
  rintro e w1 ⟨rfl, hw⟩
  have hb1 : Below w.heap.size w w1 := by rw [hw]; exact (by repeat (first | assumption | exact Below.refl _ _ | apply Below.drew | apply below_drewN | apply balloc | (refine Below.setCell ?_ (by first | omega | (simp <;> omega)) _)))
  have y0 : w1.cell? ⟨b, 0, none⟩ = some (.string s) := (hsc.out.next hb1).s
  have y1 := (hsc.out.next hb1).at
  have hv : w1.heap[w.heap.size]? = some (.cells #[.int .i64 0, .int .i64 0, .int .i64 0, .string ⟨#[]⟩] 59 (0, 0)) := by rw [hw]; exact heap_alloc_new w _
  have v0 := cellB hv 0 rfl
  have v1 := cellB hv 1 rfl
  have v2 := cellB hv 2 rfl
  have v3 := cellB hv 3 rfl
  have f0 := freeB hv 0
  have f1 := freeB hv 1
  have f2 := freeB hv 2
  have f3 := freeB hv 3
  have hvl := ltB hv
  replace hv := Lib.hid hv
  clear hw x0 x1
  (go_wp2_with fail; repeat (any_goals (go_quiet (fail); go_wp2_with fail)))
  refine (W.out _).mono ?_
  rintro e w2 ⟨rfl, rfl⟩
  (go_wp2_with fail; repeat (any_goals (go_quiet (fail); go_wp2_with fail)))
  refine (H.out _).mono ?_
  rintro e w3 ⟨rfl, rfl⟩
  have e2 := (hE.next hb1).e2
  (go_wp2_with fail; repeat (any_goals (go_quiet (fail); go_wp2_with fail)))
  refine (fault_calls _ _ _ _).mono ?_
  rintro e w4 ⟨g, hg, rfl, hat, hb⟩
  have hg2 : w.heap.size + 1 ≤ g := Nat.le_trans hvl hg
  have hv2 := box_next hv.out hb
  have u0 := cellB hv2 0 rfl
  have u1 := cellB hv2 1 rfl
  have u2 := cellB hv2 2 rfl
  have u3 := cellB hv2 3 rfl
  have g0 := freeB hv2 0
  have g1 := freeB hv2 1
  have g2 := freeB hv2 2
  have g3 := freeB hv2 3
  have hvl2 := ltB hv2
  replace hv2 := Lib.hid hv2
  clear v0 v1 v2 v3 f0 f1 f2 f3 hvl
  replace hat := Lib.hid hat
  have hb4 : Below w.heap.size w w4 := bcall (by repeat (first | assumption | exact Below.refl _ _ | apply Below.drew | apply below_drewN | apply balloc | (refine Below.setCell ?_ (by first | omega | (simp <;> omega)) _))) hb
  clear hb
  (go_wp2_with fail; repeat (any_goals (go_quiet (fail); go_wp2_with fail)))
  refine bodyPost_ret (v := .tuple #[.agg #[.int .i64 0, .int .i64 0, .int .i64 0, .string ⟨#[]⟩], .iface 69 (.pointer (some ⟨g, 0, none⟩))]) ?_ rfl ⟨⟨g, by omega, rfl, ?_⟩, (by repeat (first | assumption | exact Below.refl _ _ | apply Below.drew | apply below_drewN | apply balloc | (refine Below.setCell ?_ (by first | omega | (simp <;> omega)) _)))⟩
  · simp [results, Tryz.results82, go_sem, *]
  · unfold AtB
    have := hat.out
    unfold AtB at this
    rw [Below.heap_setCell _ _ _ _ (by simp; omega), Below.heap_setCell _ _ _ _ (by simp; omega), Below.heap_setCell _ _ _ _ (by simp; omega), Below.heap_setCell _ _ _ _ (by simp; omega)]
    exact this
set_option maxHeartbeats 2000000 in
set_option maxRecDepth 100000 in
theorem next_false_bad {A : Nat → Addr} {B : Nat} (s : ByteArray) (p b : Nat) (w : World) (hE : Env A B SJ w) (hs : s.size ≤ 35184372088830) (hsc : ScB s (p : Int) b w) (hp : p < s.size) (hc : bAt s p = 102) (hpf : Lib.hasPrefix (s.extract p s.size).data.toList [102, 97, 108, 115, 101] = false) :
    Calls Tryz.prog 82 #[.pointer (some ⟨b, 0, none⟩)] w fun e w' => NextBad A 2 p w e w' ∧ Below w.heap.size w w' := by
  have x0 := hsc.s
  have x1 := hsc.at
  have hbl : b < w.heap.size := ltB hsc
  have hx := byte_at s p
  have hp' : (p : Int) < (s.size : Int) := by omega
  have hs' : (s.size : Int) ≤ 35184372088830 := by omega
  replace hsc := Lib.hid hsc
  have O := fun w => one_calls (bAt s p) w
  have W := fun w => word_calls (bAt s p) w
  rw [show signK (bAt s p) = 0 by rw [hc]; rfl] at O
  rw [show wordS (bAt s p) = ⟨#[102, 97, 108, 115, 101]⟩ by rw [hc]; rfl, show wordK (bAt s p) = 3 by rw [hc]; rfl] at W
  have H := fun w => Tryz.strings_HasPrefix (s.extract p s.size) ⟨#[102, 97, 108, 115, 101]⟩ w
  simp only [hpf] at H
  generalize bAt s p = c at *
  replace hc := Lib.hid hc
  replace hpf := Lib.hid hpf
  replace O := Lib.hid O
  replace W := Lib.hid W
  replace H := Lib.hid H
  go_enter Tryz.func82, Tryz.ntmps82
  (go_wp2_with fail; repeat (any_goals (go_quiet (fail); go_wp2_with fail)))
  refine (O.out _).mono ?_
  rintro e w1 ⟨rfl, hw⟩
  have hb1 : Below w.heap.size w w1 := by rw [hw]; exact (by repeat (first | assumption | exact Below.refl _ _ | apply Below.drew | apply below_drewN | apply balloc | (refine Below.setCell ?_ (by first | omega | (simp <;> omega)) _)))
  have y0 : w1.cell? ⟨b, 0, none⟩ = some (.string s) := (hsc.out.next hb1).s
  have y1 := (hsc.out.next hb1).at
  have hv : w1.heap[w.heap.size]? = some (.cells #[.int .i64 0, .int .i64 0, .int .i64 0, .string ⟨#[]⟩] 59 (0, 0)) := by rw [hw]; exact heap_alloc_new w _
  have v0 := cellB hv 0 rfl
  have v1 := cellB hv 1 rfl
  have v2 := cellB hv 2 rfl
  have v3 := cellB hv 3 rfl
  have f0 := freeB hv 0
  have f1 := freeB hv 1
  have f2 := freeB hv 2
  have f3 := freeB hv 3
  have hvl := ltB hv
  replace hv := Lib.hid hv
  clear hw x0 x1
  (go_wp2_with fail; repeat (any_goals (go_quiet (fail); go_wp2_with fail)))
  refine (W.out _).mono ?_
  rintro e w2 ⟨rfl, rfl⟩
  (go_wp2_with fail; repeat (any_goals (go_quiet (fail); go_wp2_with fail)))
  refine (H.out _).mono ?_
  rintro e w3 ⟨rfl, rfl⟩
  have e2 := (hE.next hb1).e2
  (go_wp2_with fail; repeat (any_goals (go_quiet (fail); go_wp2_with fail)))
  refine (fault_calls _ _ _ _).mono ?_
  rintro e w4 ⟨g, hg, rfl, hat, hb⟩
  have hg2 : w.heap.size + 1 ≤ g := Nat.le_trans hvl hg
  have hv2 := box_next hv.out hb
  have u0 := cellB hv2 0 rfl
  have u1 := cellB hv2 1 rfl
  have u2 := cellB hv2 2 rfl
  have u3 := cellB hv2 3 rfl
  have g0 := freeB hv2 0
  have g1 := freeB hv2 1
  have g2 := freeB hv2 2
  have g3 := freeB hv2 3
  have hvl2 := ltB hv2
  replace hv2 := Lib.hid hv2
  clear v0 v1 v2 v3 f0 f1 f2 f3 hvl
  replace hat := Lib.hid hat
  have hb4 : Below w.heap.size w w4 := bcall (by repeat (first | assumption | exact Below.refl _ _ | apply Below.drew | apply below_drewN | apply balloc | (refine Below.setCell ?_ (by first | omega | (simp <;> omega)) _))) hb
  clear hb
  (go_wp2_with fail; repeat (any_goals (go_quiet (fail); go_wp2_with fail)))
  refine bodyPost_ret (v := .tuple #[.agg #[.int .i64 0, .int .i64 0, .int .i64 0, .string ⟨#[]⟩], .iface 69 (.pointer (some ⟨g, 0, none⟩))]) ?_ rfl ⟨⟨g, by omega, rfl, ?_⟩, (by repeat (first | assumption | exact Below.refl _ _ | apply Below.drew | apply below_drewN | apply balloc | (refine Below.setCell ?_ (by first | omega | (simp <;> omega)) _)))⟩
  · simp [results, Tryz.results82, go_sem, *]
  · unfold AtB
    have := hat.out
    unfold AtB at this
    rw [Below.heap_setCell _ _ _ _ (by simp; omega), Below.heap_setCell _ _ _ _ (by simp; omega), Below.heap_setCell _ _ _ _ (by simp; omega), Below.heap_setCell _ _ _ _ (by simp; omega)]
    exact this
set_option maxHeartbeats 2000000 in
set_option maxRecDepth 100000 in
theorem next_else {A : Nat → Addr} {B : Nat} (s : ByteArray) (p b : Nat) (w : World) (hE : Env A B SJ w) (hs : s.size ≤ 35184372088830) (hsc : ScB s (p : Int) b w) (hp : p < s.size) (hk : signK (bAt s p) = 0) (hw : bAt s p ≠ 110 ∧ bAt s p ≠ 116 ∧ bAt s p ≠ 102) (hn : bAt s p ≠ 45) (hd : isD (bAt s p) = false) (hq : bAt s p ≠ 34) :
    Calls Tryz.prog 82 #[.pointer (some ⟨b, 0, none⟩)] w fun e w' => NextBad A 2 p w e w' ∧ Below w.heap.size w w' := by
  have x0 := hsc.s
  have x1 := hsc.at
  have hbl : b < w.heap.size := ltB hsc
  have hx := byte_at s p
  have hp' : (p : Int) < (s.size : Int) := by omega
  have hs' : (s.size : Int) ≤ 35184372088830 := by omega
  replace hsc := Lib.hid hsc
  have O := fun w => one_calls (bAt s p) w
  have W := fun w => word_calls (bAt s p) w
  rw [hk] at O
  rw [show wordS (bAt s p) = ⟨#[]⟩ by unfold wordS; rw [if_neg (by omega), if_neg (by omega), if_neg (by omega)], show wordK (bAt s p) = 0 by unfold wordK; rw [if_neg (by omega), if_neg (by omega), if_neg (by omega)]] at W
  have D := fun w => digit_calls (bAt s p) w
  rw [hd] at D
  generalize bAt s p = c at *
  have c45 : ((c : Int) == 45) = false := by simp; omega
  have c34 : ((c : Int) == 34) = false := by simp; omega
  replace hk := Lib.hid hk
  replace hw := Lib.hid hw
  replace hn := Lib.hid hn
  replace hd := Lib.hid hd
  replace hq := Lib.hid hq
  replace O := Lib.hid O
  replace W := Lib.hid W
  replace D := Lib.hid D
  go_enter Tryz.func82, Tryz.ntmps82
  (go_wp2_with fail; repeat (any_goals (go_quiet (fail); go_wp2_with fail)))
  refine (O.out _).mono ?_
  rintro e w1 ⟨rfl, hw⟩
  have hb1 : Below w.heap.size w w1 := by rw [hw]; exact (by repeat (first | assumption | exact Below.refl _ _ | apply Below.drew | apply below_drewN | apply balloc | (refine Below.setCell ?_ (by first | omega | (simp <;> omega)) _)))
  have y0 : w1.cell? ⟨b, 0, none⟩ = some (.string s) := (hsc.out.next hb1).s
  have y1 := (hsc.out.next hb1).at
  have hv : w1.heap[w.heap.size]? = some (.cells #[.int .i64 0, .int .i64 0, .int .i64 0, .string ⟨#[]⟩] 59 (0, 0)) := by rw [hw]; exact heap_alloc_new w _
  have v0 := cellB hv 0 rfl
  have v1 := cellB hv 1 rfl
  have v2 := cellB hv 2 rfl
  have v3 := cellB hv 3 rfl
  have f0 := freeB hv 0
  have f1 := freeB hv 1
  have f2 := freeB hv 2
  have f3 := freeB hv 3
  have hvl := ltB hv
  replace hv := Lib.hid hv
  clear hw x0 x1
  (go_wp2_with fail; repeat (any_goals (go_quiet (fail); go_wp2_with fail)))
  refine (W.out _).mono ?_
  rintro e w2 ⟨rfl, rfl⟩
  (go_wp2_with fail; repeat (any_goals (go_quiet (fail); go_wp2_with fail)))
  refine (D.out _).mono ?_
  rintro e w3 ⟨rfl, rfl⟩
  have e2 := (hE.next hb1).e2
  (go_wp2_with fail; repeat (any_goals (go_quiet (fail); go_wp2_with fail)))
  refine (fault_calls _ _ _ _).mono ?_
  rintro e w4 ⟨g, hg, rfl, hat, hb⟩
  have hg2 : w.heap.size + 1 ≤ g := Nat.le_trans hvl hg
  have hv2 := box_next hv.out hb
  have u0 := cellB hv2 0 rfl
  have u1 := cellB hv2 1 rfl
  have u2 := cellB hv2 2 rfl
  have u3 := cellB hv2 3 rfl
  have g0 := freeB hv2 0
  have g1 := freeB hv2 1
  have g2 := freeB hv2 2
  have g3 := freeB hv2 3
  have hvl2 := ltB hv2
  replace hv2 := Lib.hid hv2
  clear v0 v1 v2 v3 f0 f1 f2 f3 hvl
  replace hat := Lib.hid hat
  have hb4 : Below w.heap.size w w4 := bcall (by repeat (first | assumption | exact Below.refl _ _ | apply Below.drew | apply below_drewN | apply balloc | (refine Below.setCell ?_ (by first | omega | (simp <;> omega)) _))) hb
  clear hb
  (go_wp2_with fail; repeat (any_goals (go_quiet (fail); go_wp2_with fail)))
  refine bodyPost_ret (v := .tuple #[.agg #[.int .i64 0, .int .i64 0, .int .i64 0, .string ⟨#[]⟩], .iface 69 (.pointer (some ⟨g, 0, none⟩))]) ?_ rfl ⟨⟨g, by omega, rfl, ?_⟩, (by repeat (first | assumption | exact Below.refl _ _ | apply Below.drew | apply below_drewN | apply balloc | (refine Below.setCell ?_ (by first | omega | (simp <;> omega)) _)))⟩
  · simp [results, Tryz.results82, go_sem, *]
  · unfold AtB
    have := hat.out
    unfold AtB at this
    rw [Below.heap_setCell _ _ _ _ (by simp; omega), Below.heap_setCell _ _ _ _ (by simp; omega), Below.heap_setCell _ _ _ _ (by simp; omega), Below.heap_setCell _ _ _ _ (by simp; omega)]
    exact this
end Go.Proofs.YtibopkodoidjoaaGreatDoor

/- Package scan: the walk of next at numbers and texts. -/
namespace Go.Proofs.YtibopkodoidjoaaGreatDoor
open Go Go.RowKit

set_option maxHeartbeats 2000000 in
set_option maxRecDepth 100000 in
theorem next_num_minus {A : Nat → Addr} {B : Nat} (s : ByteArray) (p b : Nat) (w : World) (hE : Env A B SJ w) (hs : s.size ≤ 35184372088830) (hsc : ScB s (p : Int) b w) (hp : p < s.size) (hk : signK (bAt s p) = 0) (hw : bAt s p ≠ 110 ∧ bAt s p ≠ 116 ∧ bAt s p ≠ 102) (hn : bAt s p = 45) (hd : True) :
    Calls Tryz.prog 82 #[.pointer (some ⟨b, 0, none⟩)] w fun e w' => (if (numAt s p).1 = true then e = .returned (.tuple #[tkV ⟨4, p, (numAt s p).2, noS⟩, .nilIface]) else NextBad A 2 (numAt s p).2 w e w') ∧ Below w.heap.size w w' := by
  have x0 := hsc.s
  have x1 := hsc.at
  have hbl : b < w.heap.size := ltB hsc
  have hx := byte_at s p
  have hp' : (p : Int) < (s.size : Int) := by omega
  have hs' : (s.size : Int) ≤ 35184372088830 := by omega
  replace hsc := Lib.hid hsc
  have O := fun w => one_calls (bAt s p) w
  have W := fun w => word_calls (bAt s p) w
  rw [hk] at O
  rw [show wordS (bAt s p) = ⟨#[]⟩ by unfold wordS; rw [if_neg (by omega), if_neg (by omega), if_neg (by omega)], show wordK (bAt s p) = 0 by unfold wordK; rw [if_neg (by omega), if_neg (by omega), if_neg (by omega)]] at W
  have D := fun w => digit_calls (bAt s p) w
  skip
  have N := fun w hE hsc => number_calls (A := A) (B := B) s p b w hE (Nat.le_trans hs (by decide)) hsc hp
  generalize bAt s p = c at *
  have c45 : ((c : Int) == 45) = true := by simp; omega
  generalize numAt s p = X at *
  obtain ⟨ok, te⟩ := X
  replace hk := Lib.hid hk
  replace hw := Lib.hid hw
  replace hn := Lib.hid hn
  replace hd := Lib.hid hd
  replace O := Lib.hid O
  replace W := Lib.hid W
  replace D := Lib.hid D
  replace N := Lib.hid N
  go_enter Tryz.func82, Tryz.ntmps82
  (go_wp2_with fail; repeat (any_goals (go_quiet (fail); go_wp2_with fail)))
  refine (O.out _).mono ?_
  rintro e w1 ⟨rfl, hw⟩
  have hb1 : Below w.heap.size w w1 := by rw [hw]; exact (by repeat (first | assumption | exact Below.refl _ _ | apply Below.drew | apply below_drewN | apply balloc | (refine Below.setCell ?_ (by first | omega | (simp <;> omega)) _)))
  have y0 : w1.cell? ⟨b, 0, none⟩ = some (.string s) := (hsc.out.next hb1).s
  have y1 := (hsc.out.next hb1).at
  have hv : w1.heap[w.heap.size]? = some (.cells #[.int .i64 0, .int .i64 0, .int .i64 0, .string ⟨#[]⟩] 59 (0, 0)) := by rw [hw]; exact heap_alloc_new w _
  have v0 := cellB hv 0 rfl
  have v1 := cellB hv 1 rfl
  have v2 := cellB hv 2 rfl
  have v3 := cellB hv 3 rfl
  have f0 := freeB hv 0
  have f1 := freeB hv 1
  have f2 := freeB hv 2
  have f3 := freeB hv 3
  have hvl := ltB hv
  replace hv := Lib.hid hv
  clear hw x0 x1
  (go_wp2_with fail; repeat (any_goals (go_quiet (fail); go_wp2_with fail)))
  refine (W.out _).mono ?_
  rintro e w2 ⟨rfl, rfl⟩
  (go_wp2_with fail; repeat (any_goals (go_quiet (fail); go_wp2_with fail)))
  have hz1 := hb1.size
  refine (N.out _ (hE.next hb1) (hsc.out.next hb1)).mono ?_
  cases ok with
  | true =>
    rintro e w4 ⟨hr, hb⟩
    have hr := (numR_ok rfl).1 hr
    subst hr
    have hv2 := box_next hv.out hb
    have u0 := cellB hv2 0 rfl
    have u1 := cellB hv2 1 rfl
    have u2 := cellB hv2 2 rfl
    have u3 := cellB hv2 3 rfl
    have g0 := freeB hv2 0
    have g1 := freeB hv2 1
    have g2 := freeB hv2 2
    have g3 := freeB hv2 3
    have hvl2 := ltB hv2
    replace hv2 := Lib.hid hv2
    clear v0 v1 v2 v3 f0 f1 f2 f3 hvl
    have hb4 : Below w.heap.size w w4 := bcall hb1 hb
    clear hb
    (go_wp2_with fail; repeat (any_goals (go_quiet (fail); go_wp2_with fail)))
    refine bodyPost_ret (v := .tuple #[.agg #[.int .i64 (4 : Int), .int .i64 (p : Int), .int .i64 (te : Int), .string ⟨#[]⟩], .nilIface]) ?_ rfl ⟨?_, (by repeat (first | assumption | exact Below.refl _ _ | apply Below.drew | apply below_drewN | apply balloc | (refine Below.setCell ?_ (by first | omega | (simp <;> omega)) _)))⟩
    · simp [results, Tryz.results82, go_sem, *]
    unfold tkV
    simp [noS]
  | false =>
    rintro e w4 ⟨hr, hb⟩
    obtain ⟨g, hg, he, hat⟩ := (numR_bad rfl).1 hr
    subst he
    have hg2 : w.heap.size + 1 ≤ g := Nat.le_trans hvl hg
    have hv2 := box_next hv.out hb
    have u0 := cellB hv2 0 rfl
    have u1 := cellB hv2 1 rfl
    have u2 := cellB hv2 2 rfl
    have u3 := cellB hv2 3 rfl
    have g0 := freeB hv2 0
    have g1 := freeB hv2 1
    have g2 := freeB hv2 2
    have g3 := freeB hv2 3
    have hvl2 := ltB hv2
    replace hv2 := Lib.hid hv2
    clear v0 v1 v2 v3 f0 f1 f2 f3 hvl
    have hb4 : Below w.heap.size w w4 := bcall hb1 hb
    clear hb hr
    replace hat := Lib.hid hat
    (go_wp2_with fail; repeat (any_goals (go_quiet (fail); go_wp2_with fail)))
    refine bodyPost_ret (v := .tuple #[.agg #[.int .i64 0, .int .i64 0, .int .i64 0, .string ⟨#[]⟩], .iface 69 (.pointer (some ⟨g, 0, none⟩))]) ?_ rfl ⟨?_, (by repeat (first | assumption | exact Below.refl _ _ | apply Below.drew | apply below_drewN | apply balloc | (refine Below.setCell ?_ (by first | omega | (simp <;> omega)) _)))⟩
    · simp [results, Tryz.results82, go_sem, *]
    · refine ⟨g, by omega, rfl, ?_⟩
      unfold AtB
      have := hat.out
      unfold AtB at this
      rw [Below.heap_setCell _ _ _ _ (by simp; omega), Below.heap_setCell _ _ _ _ (by simp; omega), Below.heap_setCell _ _ _ _ (by simp; omega), Below.heap_setCell _ _ _ _ (by simp; omega)]
      exact this
set_option maxHeartbeats 2000000 in
set_option maxRecDepth 100000 in
theorem next_num_digit {A : Nat → Addr} {B : Nat} (s : ByteArray) (p b : Nat) (w : World) (hE : Env A B SJ w) (hs : s.size ≤ 35184372088830) (hsc : ScB s (p : Int) b w) (hp : p < s.size) (hk : signK (bAt s p) = 0) (hw : bAt s p ≠ 110 ∧ bAt s p ≠ 116 ∧ bAt s p ≠ 102) (hn : bAt s p ≠ 45) (hd : isD (bAt s p) = true) :
    Calls Tryz.prog 82 #[.pointer (some ⟨b, 0, none⟩)] w fun e w' => (if (numAt s p).1 = true then e = .returned (.tuple #[tkV ⟨4, p, (numAt s p).2, noS⟩, .nilIface]) else NextBad A 2 (numAt s p).2 w e w') ∧ Below w.heap.size w w' := by
  have x0 := hsc.s
  have x1 := hsc.at
  have hbl : b < w.heap.size := ltB hsc
  have hx := byte_at s p
  have hp' : (p : Int) < (s.size : Int) := by omega
  have hs' : (s.size : Int) ≤ 35184372088830 := by omega
  replace hsc := Lib.hid hsc
  have O := fun w => one_calls (bAt s p) w
  have W := fun w => word_calls (bAt s p) w
  rw [hk] at O
  rw [show wordS (bAt s p) = ⟨#[]⟩ by unfold wordS; rw [if_neg (by omega), if_neg (by omega), if_neg (by omega)], show wordK (bAt s p) = 0 by unfold wordK; rw [if_neg (by omega), if_neg (by omega), if_neg (by omega)]] at W
  have D := fun w => digit_calls (bAt s p) w
  rw [hd] at D
  have N := fun w hE hsc => number_calls (A := A) (B := B) s p b w hE (Nat.le_trans hs (by decide)) hsc hp
  generalize bAt s p = c at *
  have c45 : ((c : Int) == 45) = false := by simp; omega
  generalize numAt s p = X at *
  obtain ⟨ok, te⟩ := X
  replace hk := Lib.hid hk
  replace hw := Lib.hid hw
  replace hn := Lib.hid hn
  replace hd := Lib.hid hd
  replace O := Lib.hid O
  replace W := Lib.hid W
  replace D := Lib.hid D
  replace N := Lib.hid N
  go_enter Tryz.func82, Tryz.ntmps82
  (go_wp2_with fail; repeat (any_goals (go_quiet (fail); go_wp2_with fail)))
  refine (O.out _).mono ?_
  rintro e w1 ⟨rfl, hw⟩
  have hb1 : Below w.heap.size w w1 := by rw [hw]; exact (by repeat (first | assumption | exact Below.refl _ _ | apply Below.drew | apply below_drewN | apply balloc | (refine Below.setCell ?_ (by first | omega | (simp <;> omega)) _)))
  have y0 : w1.cell? ⟨b, 0, none⟩ = some (.string s) := (hsc.out.next hb1).s
  have y1 := (hsc.out.next hb1).at
  have hv : w1.heap[w.heap.size]? = some (.cells #[.int .i64 0, .int .i64 0, .int .i64 0, .string ⟨#[]⟩] 59 (0, 0)) := by rw [hw]; exact heap_alloc_new w _
  have v0 := cellB hv 0 rfl
  have v1 := cellB hv 1 rfl
  have v2 := cellB hv 2 rfl
  have v3 := cellB hv 3 rfl
  have f0 := freeB hv 0
  have f1 := freeB hv 1
  have f2 := freeB hv 2
  have f3 := freeB hv 3
  have hvl := ltB hv
  replace hv := Lib.hid hv
  clear hw x0 x1
  (go_wp2_with fail; repeat (any_goals (go_quiet (fail); go_wp2_with fail)))
  refine (W.out _).mono ?_
  rintro e w2 ⟨rfl, rfl⟩
  (go_wp2_with fail; repeat (any_goals (go_quiet (fail); go_wp2_with fail)))
  refine (D.out _).mono ?_
  rintro e w3 ⟨rfl, rfl⟩
  (go_wp2_with fail; repeat (any_goals (go_quiet (fail); go_wp2_with fail)))
  have hz1 := hb1.size
  refine (N.out _ (hE.next hb1) (hsc.out.next hb1)).mono ?_
  cases ok with
  | true =>
    rintro e w4 ⟨hr, hb⟩
    have hr := (numR_ok rfl).1 hr
    subst hr
    have hv2 := box_next hv.out hb
    have u0 := cellB hv2 0 rfl
    have u1 := cellB hv2 1 rfl
    have u2 := cellB hv2 2 rfl
    have u3 := cellB hv2 3 rfl
    have g0 := freeB hv2 0
    have g1 := freeB hv2 1
    have g2 := freeB hv2 2
    have g3 := freeB hv2 3
    have hvl2 := ltB hv2
    replace hv2 := Lib.hid hv2
    clear v0 v1 v2 v3 f0 f1 f2 f3 hvl
    have hb4 : Below w.heap.size w w4 := bcall hb1 hb
    clear hb
    (go_wp2_with fail; repeat (any_goals (go_quiet (fail); go_wp2_with fail)))
    refine bodyPost_ret (v := .tuple #[.agg #[.int .i64 (4 : Int), .int .i64 (p : Int), .int .i64 (te : Int), .string ⟨#[]⟩], .nilIface]) ?_ rfl ⟨?_, (by repeat (first | assumption | exact Below.refl _ _ | apply Below.drew | apply below_drewN | apply balloc | (refine Below.setCell ?_ (by first | omega | (simp <;> omega)) _)))⟩
    · simp [results, Tryz.results82, go_sem, *]
    unfold tkV
    simp [noS]
  | false =>
    rintro e w4 ⟨hr, hb⟩
    obtain ⟨g, hg, he, hat⟩ := (numR_bad rfl).1 hr
    subst he
    have hg2 : w.heap.size + 1 ≤ g := Nat.le_trans hvl hg
    have hv2 := box_next hv.out hb
    have u0 := cellB hv2 0 rfl
    have u1 := cellB hv2 1 rfl
    have u2 := cellB hv2 2 rfl
    have u3 := cellB hv2 3 rfl
    have g0 := freeB hv2 0
    have g1 := freeB hv2 1
    have g2 := freeB hv2 2
    have g3 := freeB hv2 3
    have hvl2 := ltB hv2
    replace hv2 := Lib.hid hv2
    clear v0 v1 v2 v3 f0 f1 f2 f3 hvl
    have hb4 : Below w.heap.size w w4 := bcall hb1 hb
    clear hb hr
    replace hat := Lib.hid hat
    (go_wp2_with fail; repeat (any_goals (go_quiet (fail); go_wp2_with fail)))
    refine bodyPost_ret (v := .tuple #[.agg #[.int .i64 0, .int .i64 0, .int .i64 0, .string ⟨#[]⟩], .iface 69 (.pointer (some ⟨g, 0, none⟩))]) ?_ rfl ⟨?_, (by repeat (first | assumption | exact Below.refl _ _ | apply Below.drew | apply below_drewN | apply balloc | (refine Below.setCell ?_ (by first | omega | (simp <;> omega)) _)))⟩
    · simp [results, Tryz.results82, go_sem, *]
    · refine ⟨g, by omega, rfl, ?_⟩
      unfold AtB
      have := hat.out
      unfold AtB at this
      rw [Below.heap_setCell _ _ _ _ (by simp; omega), Below.heap_setCell _ _ _ _ (by simp; omega), Below.heap_setCell _ _ _ _ (by simp; omega), Below.heap_setCell _ _ _ _ (by simp; omega)]
      exact this

set_option maxHeartbeats 2000000 in
set_option maxRecDepth 100000 in
theorem next_text {A : Nat → Addr} {B : Nat} (s : ByteArray) (p b : Nat) (w : World) (hE : Env A B SJ w) (hs : s.size ≤ 35184372088830) (hsc : ScB s (p : Int) b w) (hp : p < s.size) (hv : brkAt s (p + 1) = s.size) (hc : bAt s p = 34) :
    Calls Tryz.prog 82 #[.pointer (some ⟨b, 0, none⟩)] w fun e w' => (if (qAt s (p + 1) []).1 = 0 then e = .returned (.tuple #[tkV ⟨5, p, (qAt s (p + 1) []).2.1, ⟨(qAt s (p + 1) []).2.2.toArray⟩⟩, .nilIface]) else NextBad A (qAt s (p + 1) []).1 (qAt s (p + 1) []).2.1 w e w') ∧ Below w.heap.size w w' := by
  have x0 := hsc.s
  have x1 := hsc.at
  have hbl : b < w.heap.size := ltB hsc
  have hx := byte_at s p
  have hp' : (p : Int) < (s.size : Int) := by omega
  have hs' : (s.size : Int) ≤ 35184372088830 := by omega
  replace hsc := Lib.hid hsc
  have hk : signK (bAt s p) = 0 := by rw [hc]; rfl
  have hw : bAt s p ≠ 110 ∧ bAt s p ≠ 116 ∧ bAt s p ≠ 102 := by omega
  have O := fun w => one_calls (bAt s p) w
  have W := fun w => word_calls (bAt s p) w
  rw [hk] at O
  rw [show wordS (bAt s p) = ⟨#[]⟩ by unfold wordS; rw [if_neg (by omega), if_neg (by omega), if_neg (by omega)], show wordK (bAt s p) = 0 by unfold wordK; rw [if_neg (by omega), if_neg (by omega), if_neg (by omega)]] at W
  have D := fun w => digit_calls (bAt s p) w
  rw [show isD (bAt s p) = false by rw [hc]; rfl] at D
  have T := fun w hE hsc => text_calls (A := A) (B := B) s p b w hE hs hsc hp hv
  have c45 : ((bAt s p : Int) == 45) = false := by rw [hc]; rfl
  have c34 : ((bAt s p : Int) == 34) = true := by rw [hc]; rfl
  generalize bAt s p = c at *
  generalize qAt s (p + 1) [] = X at *
  obtain ⟨k, te, l⟩ := X
  replace hk := Lib.hid hk
  replace hw := Lib.hid hw
  replace hc := Lib.hid hc
  replace hv := Lib.hid hv
  replace O := Lib.hid O
  replace W := Lib.hid W
  replace D := Lib.hid D
  replace T := Lib.hid T
  go_enter Tryz.func82, Tryz.ntmps82
  (go_wp2_with fail; repeat (any_goals (go_quiet (fail); go_wp2_with fail)))
  refine (O.out _).mono ?_
  rintro e w1 ⟨rfl, hw⟩
  have hb1 : Below w.heap.size w w1 := by rw [hw]; exact (by repeat (first | assumption | exact Below.refl _ _ | apply Below.drew | apply below_drewN | apply balloc | (refine Below.setCell ?_ (by first | omega | (simp <;> omega)) _)))
  have y0 : w1.cell? ⟨b, 0, none⟩ = some (.string s) := (hsc.out.next hb1).s
  have y1 := (hsc.out.next hb1).at
  have hv : w1.heap[w.heap.size]? = some (.cells #[.int .i64 0, .int .i64 0, .int .i64 0, .string ⟨#[]⟩] 59 (0, 0)) := by rw [hw]; exact heap_alloc_new w _
  have v0 := cellB hv 0 rfl
  have v1 := cellB hv 1 rfl
  have v2 := cellB hv 2 rfl
  have v3 := cellB hv 3 rfl
  have f0 := freeB hv 0
  have f1 := freeB hv 1
  have f2 := freeB hv 2
  have f3 := freeB hv 3
  have hvl := ltB hv
  replace hv := Lib.hid hv
  clear hw x0 x1
  (go_wp2_with fail; repeat (any_goals (go_quiet (fail); go_wp2_with fail)))
  refine (W.out _).mono ?_
  rintro e w2 ⟨rfl, rfl⟩
  (go_wp2_with fail; repeat (any_goals (go_quiet (fail); go_wp2_with fail)))
  refine (D.out _).mono ?_
  rintro e w3 ⟨rfl, rfl⟩
  (go_wp2_with fail; repeat (any_goals (go_quiet (fail); go_wp2_with fail)))
  have hz1 := hb1.size
  refine (T.out _ (hE.next hb1) (hsc.out.next hb1)).mono ?_
  cases k with
  | zero =>
    rintro e w4 ⟨hr, hb⟩
    have hr := (textR_ok rfl).1 hr
    subst hr
    have hv2 := box_next hv.out hb
    have u0 := cellB hv2 0 rfl
    have u1 := cellB hv2 1 rfl
    have u2 := cellB hv2 2 rfl
    have u3 := cellB hv2 3 rfl
    have g0 := freeB hv2 0
    have g1 := freeB hv2 1
    have g2 := freeB hv2 2
    have g3 := freeB hv2 3
    have hvl2 := ltB hv2
    replace hv2 := Lib.hid hv2
    clear v0 v1 v2 v3 f0 f1 f2 f3 hvl
    have hb4 : Below w.heap.size w w4 := bcall hb1 hb
    clear hb
    (go_wp2_with fail; repeat (any_goals (go_quiet (fail); go_wp2_with fail)))
    refine bodyPost_ret (v := .tuple #[.agg #[.int .i64 (5 : Int), .int .i64 (p : Int), .int .i64 (te : Int), .string ⟨l.toArray⟩], .nilIface]) ?_ rfl ⟨?_, (by repeat (first | assumption | exact Below.refl _ _ | apply Below.drew | apply below_drewN | apply balloc | (refine Below.setCell ?_ (by first | omega | (simp <;> omega)) _)))⟩
    · simp [results, Tryz.results82, go_sem, *]
    unfold tkV
    simp
  | succ k =>
    rintro e w4 ⟨hr, hb⟩
    obtain ⟨g, hg, he, hat⟩ := (textR_bad rfl).1 hr
    subst he
    have hg2 : w.heap.size + 1 ≤ g := Nat.le_trans hvl hg
    have hv2 := box_next hv.out hb
    have u0 := cellB hv2 0 rfl
    have u1 := cellB hv2 1 rfl
    have u2 := cellB hv2 2 rfl
    have u3 := cellB hv2 3 rfl
    have g0 := freeB hv2 0
    have g1 := freeB hv2 1
    have g2 := freeB hv2 2
    have g3 := freeB hv2 3
    have hvl2 := ltB hv2
    replace hv2 := Lib.hid hv2
    clear v0 v1 v2 v3 f0 f1 f2 f3 hvl
    have hb4 : Below w.heap.size w w4 := bcall hb1 hb
    clear hb hr
    replace hat := Lib.hid hat
    (go_wp2_with fail; repeat (any_goals (go_quiet (fail); go_wp2_with fail)))
    refine bodyPost_ret (v := .tuple #[.agg #[.int .i64 0, .int .i64 0, .int .i64 0, .string ⟨#[]⟩], .iface 69 (.pointer (some ⟨g, 0, none⟩))]) ?_ rfl ⟨?_, (by repeat (first | assumption | exact Below.refl _ _ | apply Below.drew | apply below_drewN | apply balloc | (refine Below.setCell ?_ (by first | omega | (simp <;> omega)) _)))⟩
    · simp [results, Tryz.results82, go_sem, *]
    · refine ⟨g, by omega, rfl, ?_⟩
      unfold AtB
      have := hat.out
      unfold AtB at this
      rw [Below.heap_setCell _ _ _ _ (by simp; omega), Below.heap_setCell _ _ _ _ (by simp; omega), Below.heap_setCell _ _ _ _ (by simp; omega), Below.heap_setCell _ _ _ _ (by simp; omega)]
      exact this

end Go.Proofs.YtibopkodoidjoaaGreatDoor

/- Plain laws: where a token ends. -/
namespace Go.Proofs.YtibopkodoidjoaaGreatDoor
open Go Go.RowKit

theorem nth_bAt (s : ByteArray) (j : Nat) (x : UInt8) (hx : x ≠ 0) : s.data.toList[j]? = some x ↔ bAt s j = x.toNat := by
  unfold bAt
  have hx' : x.toNat ≠ 0 := fun h => hx (UInt8.toNat_inj.1 h)
  by_cases h : j < s.size
  · rw [dif_pos h]
    have h2 : j < s.data.toList.length := by simpa using h
    rw [List.getElem?_eq_getElem h2]
    simp only [Option.some.injEq]
    rw [← UInt8.toNat_inj]
    rfl
  · rw [dif_neg h]
    have h2 : s.data.toList.length ≤ j := by simpa using Nat.le_of_not_lt h
    rw [List.getElem?_eq_none h2]
    constructor
    · intro h; cases h
    · intro h; exact absurd h.symm hx'
theorem pre4 (l : List UInt8) (a b c d : UInt8) : Lib.hasPrefix l [a, b, c, d] = true ↔ l[0]? = some a ∧ l[1]? = some b ∧ l[2]? = some c ∧ l[3]? = some d := by
  rcases l with _ | ⟨x, _ | ⟨y, _ | ⟨z, _ | ⟨u, l⟩⟩⟩⟩ <;> simp [Lib.hasPrefix, List.isPrefixOf]
  grind
theorem pre5 (l : List UInt8) (a b c d e : UInt8) : Lib.hasPrefix l [a, b, c, d, e] = true ↔ l[0]? = some a ∧ l[1]? = some b ∧ l[2]? = some c ∧ l[3]? = some d ∧ l[4]? = some e := by
  rcases l with _ | ⟨x, _ | ⟨y, _ | ⟨z, _ | ⟨u, _ | ⟨v, l⟩⟩⟩⟩⟩ <;> simp [Lib.hasPrefix, List.isPrefixOf]
  grind
theorem pre_null (s : ByteArray) (p : Nat) (h : bAt s p = 110) : Lib.hasPrefix (s.extract p s.size).data.toList [110, 117, 108, 108] = true ↔ (bAt s (p + 1) = 117 ∧ bAt s (p + 2) = 108 ∧ bAt s (p + 3) = 108) := by
  rw [pre4, nth_bAt _ _ _ (by decide), nth_bAt _ _ _ (by decide), nth_bAt _ _ _ (by decide), nth_bAt _ _ _ (by decide)]
  simp only [bAt_extract, Nat.add_zero, h]
  exact ⟨fun h => h.2, fun h => ⟨rfl, h⟩⟩
theorem pre_true (s : ByteArray) (p : Nat) (h : bAt s p = 116) : Lib.hasPrefix (s.extract p s.size).data.toList [116, 114, 117, 101] = true ↔ (bAt s (p + 1) = 114 ∧ bAt s (p + 2) = 117 ∧ bAt s (p + 3) = 101) := by
  rw [pre4, nth_bAt _ _ _ (by decide), nth_bAt _ _ _ (by decide), nth_bAt _ _ _ (by decide), nth_bAt _ _ _ (by decide)]
  simp only [bAt_extract, Nat.add_zero, h]
  exact ⟨fun h => h.2, fun h => ⟨rfl, h⟩⟩
theorem pre_false (s : ByteArray) (p : Nat) (h : bAt s p = 102) : Lib.hasPrefix (s.extract p s.size).data.toList [102, 97, 108, 115, 101] = true ↔ (bAt s (p + 1) = 97 ∧ bAt s (p + 2) = 108 ∧ bAt s (p + 3) = 115 ∧ bAt s (p + 4) = 101) := by
  rw [pre5, nth_bAt _ _ _ (by decide), nth_bAt _ _ _ (by decide), nth_bAt _ _ _ (by decide), nth_bAt _ _ _ (by decide), nth_bAt _ _ _ (by decide)]
  simp only [bAt_extract, Nat.add_zero, h]
  exact ⟨fun h => h.2, fun h => ⟨rfl, h⟩⟩

/-! ### All bytes below 128 -/
def Low (s : ByteArray) (i j : Nat) : Prop := i ≤ j ∧ j ≤ s.size ∧ ∀ k, i ≤ k → k < j → bAt s k < 128
theorem Low.refl {s : ByteArray} {i : Nat} (h : i ≤ s.size) : Low s i i := ⟨Nat.le_refl _, h, fun k h1 h2 => by omega⟩
theorem Low.trans {s : ByteArray} {i j k : Nat} (h : Low s i j) (h2 : Low s j k) : Low s i k :=
  ⟨Nat.le_trans h.1 h2.1, h2.2.1, fun m h3 h4 => by
    rcases Nat.lt_or_ge m j with h5 | h5
    · exact h.2.2 m h3 h5
    · exact h2.2.2 m h5 h4⟩
theorem Low.one {s : ByteArray} {i : Nat} (h0 : bAt s i ≠ 0) (h : bAt s i < 128) : Low s i (i + 1) :=
  ⟨by omega, lt_of_bAt h0, fun k h1 h2 => by obtain rfl : k = i := by omega
                                             exact h⟩
theorem Low.brk {s : ByteArray} {i j : Nat} (h : Low s i j) (hb : brkAt s i = s.size) : brkAt s j = s.size := by
  have := brk_run (k := j - i) hb (by have := h.1; have := h.2.1; omega) (fun m hm => h.2.2 (i + m) (by omega) (by have := h.1; omega))
  rw [show i + (j - i) = j by have := h.1; omega] at this
  exact this
theorem digF_low (s : ByteArray) : ∀ f i, i ≤ s.size → Low s i (digF s f i)
  | 0, i, h => Low.refl h
  | f + 1, i, h => by
    rw [digF]
    by_cases hd : isD (bAt s i) = true
    · rw [if_pos hd]
      have h1 := isD_iff.1 hd
      have h2 : Low s i (i + 1) := Low.one (by omega) (by omega)
      exact h2.trans (digF_low s f (i + 1) h2.2.1)
    · rw [if_neg hd]; exact Low.refl h
theorem digAt_low (s : ByteArray) (i : Nat) (h : i ≤ s.size) : Low s i (digAt s i) := digF_low s _ i h
theorem fracAt_low (s : ByteArray) (i : Nat) (h : i ≤ s.size) : Low s i (fracAt s i).2 := by
  unfold fracAt
  by_cases h1 : bAt s i = 46
  · rw [if_pos h1]
    have h2 : Low s i (i + 1) := Low.one (by omega) (by omega)
    split
    · exact h2
    · exact h2.trans (digAt_low s _ h2.2.1)
  · rw [if_neg h1]; exact Low.refl h
theorem signAt_low (s : ByteArray) (i : Nat) (h : bAt s i = 101 ∨ bAt s i = 69) : Low s i (signAt s i) := by
  have h2 : Low s i (i + 1) := Low.one (by omega) (by omega)
  unfold signAt
  split
  · exact h2.trans (Low.one (by omega) (by omega))
  · exact h2
theorem expAt_low (s : ByteArray) (i : Nat) (h : i ≤ s.size) : Low s i (expAt s i).2 := by
  unfold expAt
  by_cases h1 : bAt s i = 101 ∨ bAt s i = 69
  · rw [if_pos h1]
    have h2 := signAt_low s i h1
    split
    · exact h2
    · exact h2.trans (digAt_low s _ h2.2.1)
  · rw [if_neg h1]; exact Low.refl h
theorem minAt_low (s : ByteArray) (i : Nat) (h : i ≤ s.size) : Low s i (minAt s i) := by
  unfold minAt
  split
  · exact Low.one (by omega) (by omega)
  · exact Low.refl h
theorem headAt_low (s : ByteArray) (i : Nat) (h : i ≤ s.size) : Low s i (headAt s i) := by
  unfold headAt
  split
  · exact Low.one (by omega) (by omega)
  · exact digAt_low s i h
theorem numAt_low (s : ByteArray) (i : Nat) (h : i ≤ s.size) : Low s i (numAt s i).2 := by
  have h1 := minAt_low s i h
  unfold numAt
  split
  · have h2 := h1.trans (headAt_low s _ h1.2.1)
    have h3 := h2.trans (fracAt_low s _ h2.2.1)
    split
    · exact h3.trans (expAt_low s _ h3.2.1)
    · exact h3
  · exact h1
theorem esc_low {s : ByteArray} {i : Nat} (h92 : bAt s i = 92) (h : (escAt s i).1 = 0) : Low s i (i + (escAt s i).2.2) := by
  have h2 := escAt_ok h92 h
  refine ⟨by omega, h2.1, fun k h3 h4 => ?_⟩
  have := escAt_ascii h92 h (k - i) (by omega)
  rw [show i + (k - i) = k by omega] at this
  exact this
theorem qAt_brk (s : ByteArray) : ∀ n i acc, s.size - i ≤ n → brkAt s i = s.size → (qAt s i acc).1 = 0 → brkAt s (qAt s i acc).2.1 = s.size := by
  intro n
  induction n with
  | zero =>
    intro i acc h1 h2 h3
    rw [qAt_eq, if_neg (by omega)] at h3
    cases h3
  | succ n ih =>
    intro i acc h1 h2 h3
    rcases Nat.lt_or_ge i s.size with hi | hi
    rotate_left
    · rw [qAt_eq, if_neg (by omega)] at h3; cases h3
    have hn := brk_next hi h2
    have hr := rune_cases hi hn.1
    by_cases hb : bAt s i < 128
    · rw [qAt_eq] at h3 ⊢
      rw [if_pos hi] at h3 ⊢
      have h1b := brk_ascii h2 hi hb
      by_cases h34 : bAt s i = 34
      · rw [if_pos h34]; exact h1b
      rw [if_neg h34] at h3 ⊢
      by_cases h32 : bAt s i < 32
      · rw [if_pos h32] at h3; cases h3
      rw [if_neg h32] at h3 ⊢
      by_cases h92 : bAt s i = 92
      · rw [if_pos h92] at h3 ⊢
        by_cases he : (escAt s i).1 = 0
        · rw [if_pos he] at h3 ⊢
          have hl := esc_low h92 he
          have := escAt_ok h92 he
          exact ih _ _ (by omega) (hl.brk h2) h3
        · rw [if_neg he] at h3; exact absurd h3 he
      · rw [if_neg h92] at h3 ⊢
        exact ih _ _ (by omega) h1b h3
    · have hc := hr.2.2.2.2
      rw [qAt_high (k := (refAt s i).2) acc hr.2.2.2.1 (by
        rcases hc with hc | hc
        · omega
        · exact hc.2.2)] at h3 ⊢
      have hw : 1 ≤ (refAt s i).2 := by rw [← hr.2.2.1]; have := hn.1; omega
      exact ih _ _ (by omega) hn.2 h3

theorem signK_ascii {c : Nat} (h : signK c ≠ 0) : c ≠ 0 ∧ c < 128 := by
  unfold signK at h
  repeat' split at h
  all_goals first | omega | exact absurd rfl h
/-- A token: its end, and no scalar is cut. -/
theorem oneAt_ok (s : ByteArray) (i : Nat) (hi : i < s.size) (hb : brkAt s i = s.size) (h : (oneAt s i).1 = 0) :
    (oneAt s i).2.2.fr = i ∧ i < (oneAt s i).2.2.to ∧ (oneAt s i).2.2.to ≤ s.size ∧ brkAt s (oneAt s i).2.2.to = s.size ∧ (oneAt s i).2.2.text.size ≤ (oneAt s i).2.2.to - i ∧ 1 ≤ (oneAt s i).2.2.kind ∧ (oneAt s i).2.2.kind ≤ 11 := by
  have fin : ∀ k t, i < t → Low s i t → 1 ≤ k → k ≤ 11 → ((⟨k, i, t, noS⟩ : Tk).fr = i ∧ i < (⟨k, i, t, noS⟩ : Tk).to ∧ (⟨k, i, t, noS⟩ : Tk).to ≤ s.size ∧ brkAt s (⟨k, i, t, noS⟩ : Tk).to = s.size ∧ (⟨k, i, t, noS⟩ : Tk).text.size ≤ (⟨k, i, t, noS⟩ : Tk).to - i ∧ 1 ≤ (⟨k, i, t, noS⟩ : Tk).kind ∧ (⟨k, i, t, noS⟩ : Tk).kind ≤ 11) :=
    fun k t h1 h2 h3 h4 => ⟨rfl, h1, h2.2.1, h2.brk hb, Nat.zero_le _, h3, h4⟩
  unfold oneAt at h ⊢
  simp only at h ⊢
  by_cases h1 : signK (bAt s i) ≠ 0
  · rw [if_pos h1]
    have := signK_ascii h1
    exact fin _ _ (by omega) (Low.one this.1 this.2) (by omega) (by unfold signK; repeat' split
                                                                    all_goals omega)
  rw [if_neg h1] at h ⊢
  by_cases h2 : bAt s i = 110
  · rw [if_pos h2] at h ⊢
    by_cases hp : bAt s (i + 1) = 117 ∧ bAt s (i + 2) = 108 ∧ bAt s (i + 3) = 108
    · rw [if_pos hp]
      exact fin _ _ (by omega) ((((Low.one (by omega) (by omega)).trans (Low.one (by omega) (by omega))).trans (Low.one (s := s) (i := i + 2) (by omega) (by omega))).trans (Low.one (s := s) (i := i + 3) (by omega) (by omega))) (by omega) (by omega)
    · rw [if_neg hp] at h; cases h
  rw [if_neg h2] at h ⊢
  by_cases h3 : bAt s i = 116
  · rw [if_pos h3] at h ⊢
    by_cases hp : bAt s (i + 1) = 114 ∧ bAt s (i + 2) = 117 ∧ bAt s (i + 3) = 101
    · rw [if_pos hp]
      exact fin _ _ (by omega) ((((Low.one (by omega) (by omega)).trans (Low.one (by omega) (by omega))).trans (Low.one (s := s) (i := i + 2) (by omega) (by omega))).trans (Low.one (s := s) (i := i + 3) (by omega) (by omega))) (by omega) (by omega)
    · rw [if_neg hp] at h; cases h
  rw [if_neg h3] at h ⊢
  by_cases h4 : bAt s i = 102
  · rw [if_pos h4] at h ⊢
    by_cases hp : bAt s (i + 1) = 97 ∧ bAt s (i + 2) = 108 ∧ bAt s (i + 3) = 115 ∧ bAt s (i + 4) = 101
    · rw [if_pos hp]
      exact fin _ _ (by omega) (((((Low.one (by omega) (by omega)).trans (Low.one (by omega) (by omega))).trans (Low.one (s := s) (i := i + 2) (by omega) (by omega))).trans (Low.one (s := s) (i := i + 3) (by omega) (by omega))).trans (Low.one (s := s) (i := i + 4) (by omega) (by omega))) (by omega) (by omega)
    · rw [if_neg hp] at h; cases h
  rw [if_neg h4] at h ⊢
  by_cases h5 : bAt s i = 45 ∨ isD (bAt s i) = true
  · rw [if_pos h5] at h ⊢
    by_cases hn : (numAt s i).1 = true
    · rw [if_pos hn]
      exact fin _ _ ((numAt_bd s i hi).2.2 hn) (numAt_low s i (by omega)) (by omega) (by omega)
    · rw [if_neg hn] at h; cases h
  rw [if_neg h5] at h ⊢
  by_cases h6 : bAt s i = 34
  · rw [if_pos h6] at h ⊢
    by_cases hq : (qAt s (i + 1) []).1 = 0
    · rw [if_pos hq]
      have hb1 := brk_ascii hb hi (by omega)
      have hbd := (qAt_bd s (s.size - (i + 1)) (i + 1) [] (Nat.le_refl _) hi)
      have h7 := hbd.2.2.2 hq
      refine ⟨rfl, ?_, hbd.2.2.1, qAt_brk s _ _ _ (Nat.le_refl _) hb1 hq, ?_, Nat.le_add_left 1 4, by simp only; omega⟩
      · show i < (qAt s (i + 1) []).2.1
        omega
      · show (qAt s (i + 1) []).2.2.toArray.size ≤ (qAt s (i + 1) []).2.1 - i
        rw [List.size_toArray]
        have := h7.2
        rw [List.length_nil] at this
        omega
    · rw [if_neg hq] at h; exact absurd h hq
  rw [if_neg h6] at h
  cases h
/-- An error's number and place. -/
theorem oneAt_bad (s : ByteArray) (i : Nat) (hi : i < s.size) (h : (oneAt s i).1 ≠ 0) : ((oneAt s i).1 = 1 ∨ (oneAt s i).1 = 2) ∧ i ≤ (oneAt s i).2.1 ∧ (oneAt s i).2.1 ≤ s.size := by
  have fin : ∀ j, i ≤ j → j ≤ s.size → ((2 : Nat) = 1 ∨ (2 : Nat) = 2) ∧ i ≤ j ∧ j ≤ s.size := fun j h1 h2 => ⟨Or.inr rfl, h1, h2⟩
  unfold oneAt at h ⊢
  simp only at h ⊢
  by_cases h1 : signK (bAt s i) ≠ 0
  · rw [if_pos h1] at h; exact absurd rfl h
  rw [if_neg h1] at h ⊢
  by_cases h2 : bAt s i = 110
  · rw [if_pos h2] at h ⊢
    split at h
    · exact absurd rfl h
    · rename_i hp; rw [if_neg hp]; exact fin _ (Nat.le_refl _) (Nat.le_of_lt hi)
  rw [if_neg h2] at h ⊢
  by_cases h3 : bAt s i = 116
  · rw [if_pos h3] at h ⊢
    split at h
    · exact absurd rfl h
    · rename_i hp; rw [if_neg hp]; exact fin _ (Nat.le_refl _) (Nat.le_of_lt hi)
  rw [if_neg h3] at h ⊢
  by_cases h4 : bAt s i = 102
  · rw [if_pos h4] at h ⊢
    split at h
    · exact absurd rfl h
    · rename_i hp; rw [if_neg hp]; exact fin _ (Nat.le_refl _) (Nat.le_of_lt hi)
  rw [if_neg h4] at h ⊢
  by_cases h5 : bAt s i = 45 ∨ isD (bAt s i) = true
  · rw [if_pos h5] at h ⊢
    split at h
    · exact absurd rfl h
    · rename_i hn
      rw [if_neg hn]
      have := numAt_bd s i hi
      exact fin _ this.1 this.2.1
  rw [if_neg h5] at h ⊢
  by_cases h6 : bAt s i = 34
  · rw [if_pos h6] at h ⊢
    have hbd := (qAt_bd s (s.size - (i + 1)) (i + 1) [] (Nat.le_refl _) hi)
    split at h
    · exact absurd rfl h
    · rename_i hq
      rw [if_neg hq]
      refine ⟨?_, ?_, hbd.2.2.1⟩
      · show (qAt s (i + 1) []).1 = 1 ∨ (qAt s (i + 1) []).1 = 2
        omega
      · show i ≤ (qAt s (i + 1) []).2.1
        omega
  rw [if_neg h6]
  exact fin _ (Nat.le_refl _) (Nat.le_of_lt hi)

/-! ### The scan's fuel -/
theorem scanF_fuel (s : ByteArray) : ∀ f g i, s.size - i < f → s.size - i < g → brkAt s i = s.size → scanF s f i = scanF s g i := by
  intro f
  induction f with
  | zero => intro g i h1; omega
  | succ f ih =>
    intro g i h1 h2 hb
    obtain ⟨g, rfl⟩ : ∃ m, g = m + 1 := ⟨g - 1, by omega⟩
    rw [scanF, scanF]
    by_cases hi : i < s.size
    · rw [if_pos hi, if_pos hi]
      by_cases hbl : blankN (bAt s i) = true
      · rw [if_pos hbl, if_pos hbl]
        refine ih g (i + 1) (by omega) (by omega) (brk_ascii hb hi ?_)
        simp only [blankN, Bool.or_eq_true, beq_iff_eq] at hbl
        omega
      rw [if_neg hbl, if_neg hbl]
      by_cases ho : (oneAt s i).1 = 0
      · have h3 := oneAt_ok s i hi hb ho
        rw [if_pos ho, if_pos ho, ih g _ (by omega) (by omega) h3.2.2.2.1]
      · rw [if_neg ho, if_neg ho]
    · rw [if_neg hi, if_neg hi]
def scanAt (s : ByteArray) (i : Nat) : List Tk × Nat × Nat := scanF s (s.size - i + 1) i
theorem scanAt_eq (s : ByteArray) (i : Nat) (hb : brkAt s i = s.size) : scanAt s i =
    if i < s.size then
      (if blankN (bAt s i) = true then scanAt s (i + 1)
      else if (oneAt s i).1 = 0 then (((oneAt s i).2.2 :: (scanAt s (oneAt s i).2.2.to).1), (scanAt s (oneAt s i).2.2.to).2)
      else ([], (oneAt s i).1, (oneAt s i).2.1))
    else ([], 0, 0) := by
  conv => lhs; unfold scanAt
  rw [scanF]
  by_cases hi : i < s.size
  · rw [if_pos hi, if_pos hi]
    by_cases hbl : blankN (bAt s i) = true
    · rw [if_pos hbl, if_pos hbl]
      unfold scanAt
      refine scanF_fuel s _ _ (i + 1) (by omega) (by omega) (brk_ascii hb hi ?_)
      simp only [blankN, Bool.or_eq_true, beq_iff_eq] at hbl
      omega
    rw [if_neg hbl, if_neg hbl]
    by_cases ho : (oneAt s i).1 = 0
    · have h3 := oneAt_ok s i hi hb ho
      rw [if_pos ho, if_pos ho, scanF_fuel s (s.size - i) (s.size - (oneAt s i).2.2.to + 1) _ (by omega) (by omega) h3.2.2.2.1]
      rfl
    · rw [if_neg ho, if_neg ho]
  · rw [if_neg hi, if_neg hi]
/-- The place behind the blanks from i on. -/
def blkF (s : ByteArray) : Nat → Nat → Nat
  | 0, i => i
  | f + 1, i => if i < s.size ∧ blankN (bAt s i) = true then blkF s f (i + 1) else i
def blkAt (s : ByteArray) (i : Nat) : Nat := blkF s (s.size - i) i
theorem blkAt_eq (s : ByteArray) (i : Nat) : blkAt s i = if i < s.size ∧ blankN (bAt s i) = true then blkAt s (i + 1) else i := by
  unfold blkAt
  by_cases h : i < s.size ∧ blankN (bAt s i) = true
  · obtain ⟨f, hf⟩ : ∃ f, s.size - i = f + 1 := ⟨s.size - i - 1, by omega⟩
    rw [hf, blkF, if_pos h, if_pos h, show s.size - (i + 1) = f by omega]
  · rw [if_neg h]
    cases s.size - i with
    | zero => rfl
    | succ f => rw [blkF, if_neg h]
theorem blank_ascii {c : Nat} (h : blankN c = true) : c ≠ 0 ∧ c < 128 := by
  simp only [blankN, Bool.or_eq_true, beq_iff_eq] at h
  omega
theorem blkF_low (s : ByteArray) : ∀ f i, i ≤ s.size → Low s i (blkF s f i)
  | 0, i, h => Low.refl h
  | f + 1, i, h => by
    rw [blkF]
    by_cases hd : i < s.size ∧ blankN (bAt s i) = true
    · rw [if_pos hd]
      have h1 := blank_ascii hd.2
      have h2 : Low s i (i + 1) := Low.one h1.1 h1.2
      exact h2.trans (blkF_low s f (i + 1) h2.2.1)
    · rw [if_neg hd]; exact Low.refl h
theorem blkAt_low (s : ByteArray) (i : Nat) (h : i ≤ s.size) : Low s i (blkAt s i) := blkF_low s _ i h
theorem blkAt_not (s : ByteArray) : ∀ n i, s.size - i ≤ n → blkAt s i < s.size → blankN (bAt s (blkAt s i)) = false := by
  intro n
  induction n with
  | zero =>
    intro i h1 h2
    rw [blkAt_eq, if_neg (by omega)] at h2
    omega
  | succ n ih =>
    intro i h1 h2
    rw [blkAt_eq] at h2 ⊢
    by_cases h : i < s.size ∧ blankN (bAt s i) = true
    · rw [if_pos h] at h2 ⊢
      exact ih (i + 1) (by omega) h2
    · rw [if_neg h] at h2 ⊢
      cases hb : blankN (bAt s i) with
      | true => exact absurd ⟨h2, hb⟩ h
      | false => rfl
theorem scan_blk (s : ByteArray) : ∀ n i, s.size - i ≤ n → brkAt s i = s.size → scanAt s i = scanAt s (blkAt s i) := by
  intro n
  induction n with
  | zero =>
    intro i h1 hb
    rw [blkAt_eq, if_neg (by omega)]
  | succ n ih =>
    intro i h1 hb
    rw [blkAt_eq]
    by_cases h : i < s.size ∧ blankN (bAt s i) = true
    · rw [if_pos h, scanAt_eq s i hb, if_pos h.1, if_pos h.2]
      exact ih (i + 1) (by omega) (brk_ascii hb h.1 (blank_ascii h.2).2)
    · rw [if_neg h]
/-- One step of the scan, from a place behind a token. -/
theorem scan_step (s : ByteArray) (i : Nat) (hi : i ≤ s.size) (hb : brkAt s i = s.size) : scanAt s i =
    if blkAt s i < s.size then
      (if (oneAt s (blkAt s i)).1 = 0 then (((oneAt s (blkAt s i)).2.2 :: (scanAt s (oneAt s (blkAt s i)).2.2.to).1), (scanAt s (oneAt s (blkAt s i)).2.2.to).2)
      else ([], (oneAt s (blkAt s i)).1, (oneAt s (blkAt s i)).2.1))
    else ([], 0, 0) := by
  rw [scan_blk s _ i (Nat.le_refl _) hb, scanAt_eq s _ ((blkAt_low s i hi).brk hb)]
  by_cases h : blkAt s i < s.size
  · rw [if_pos h, if_pos h, if_neg (by rw [blkAt_not s _ i (Nat.le_refl _) h]; exact Bool.false_ne_true)]
  · rw [if_neg h, if_neg h]
theorem someS_eq (s : ByteArray) : someS s = if utfE s = 0 then scanAt s 0 else ([], 1, brkAt s 0) := rfl

end Go.Proofs.YtibopkodoidjoaaGreatDoor

/- Package scan: next, whole. -/
namespace Go.Proofs.YtibopkodoidjoaaGreatDoor
open Go Go.RowKit

theorem tok_calls {A : Nat → Addr} {B : Nat} (s : ByteArray) (p b : Nat) (w : World) (hE : Env A B SJ w) (hs : s.size ≤ 35184372088830) (hsc : ScB s (p : Int) b w) (hp : p < s.size) (hv : brkAt s p = s.size) :
    Calls Tryz.prog 82 #[.pointer (some ⟨b, 0, none⟩)] w fun e w' => NextR A (oneAt s p) w e w' ∧ Below w.heap.size w w' := by
  have out : ∀ {O : Nat × Nat × Tk} {t : Tk} {i : Nat}, O = (0, i, t) → Calls Tryz.prog 82 #[.pointer (some ⟨b, 0, none⟩)] w (fun e w' => e = .returned (.tuple #[tkV t, .nilIface]) ∧ Below w.heap.size w w') →
      Calls Tryz.prog 82 #[.pointer (some ⟨b, 0, none⟩)] w (fun e w' => NextR A O w e w' ∧ Below w.heap.size w w') := by
    intro O t i h hc
    refine hc.mono ?_
    rintro e w1 ⟨he, hb⟩
    exact ⟨(nextR_ok h).2 he, hb⟩
  have bad : ∀ {O : Nat × Nat × Tk} {t : Tk} {i k : Nat}, O = (k + 1, i, t) → Calls Tryz.prog 82 #[.pointer (some ⟨b, 0, none⟩)] w (fun e w' => NextBad A (k + 1) i w e w' ∧ Below w.heap.size w w') →
      Calls Tryz.prog 82 #[.pointer (some ⟨b, 0, none⟩)] w (fun e w' => NextR A O w e w' ∧ Below w.heap.size w w') := by
    intro O t i k h hc
    refine hc.mono ?_
    rintro e w1 ⟨he, hb⟩
    exact ⟨(nextR_bad h).2 he, hb⟩
  have hone : oneAt s p = oneAt s p := rfl
  conv at hone => rhs; unfold oneAt
  simp only at hone
  by_cases h1 : signK (bAt s p) ≠ 0
  · rw [if_pos h1] at hone
    exact out hone (next_sign s p b w hs hsc hp h1)
  rw [if_neg h1] at hone
  by_cases h2 : bAt s p = 110
  · rw [if_pos h2] at hone
    by_cases hq : bAt s (p + 1) = 117 ∧ bAt s (p + 2) = 108 ∧ bAt s (p + 3) = 108
    · rw [if_pos hq] at hone
      exact out hone (next_null s p b w hs hsc hp h2 ((pre_null s p h2).2 hq))
    · rw [if_neg hq] at hone
      exact bad hone (next_null_bad s p b w hE hs hsc hp h2 (by rw [Bool.eq_false_iff]; exact fun h => hq ((pre_null s p h2).1 h)))
  rw [if_neg h2] at hone
  by_cases h3 : bAt s p = 116
  · rw [if_pos h3] at hone
    by_cases hq : bAt s (p + 1) = 114 ∧ bAt s (p + 2) = 117 ∧ bAt s (p + 3) = 101
    · rw [if_pos hq] at hone
      exact out hone (next_true s p b w hs hsc hp h3 ((pre_true s p h3).2 hq))
    · rw [if_neg hq] at hone
      exact bad hone (next_true_bad s p b w hE hs hsc hp h3 (by rw [Bool.eq_false_iff]; exact fun h => hq ((pre_true s p h3).1 h)))
  rw [if_neg h3] at hone
  by_cases h4 : bAt s p = 102
  · rw [if_pos h4] at hone
    by_cases hq : bAt s (p + 1) = 97 ∧ bAt s (p + 2) = 108 ∧ bAt s (p + 3) = 115 ∧ bAt s (p + 4) = 101
    · rw [if_pos hq] at hone
      exact out hone (next_false s p b w hs hsc hp h4 ((pre_false s p h4).2 hq))
    · rw [if_neg hq] at hone
      exact bad hone (next_false_bad s p b w hE hs hsc hp h4 (by rw [Bool.eq_false_iff]; exact fun h => hq ((pre_false s p h4).1 h)))
  rw [if_neg h4] at hone
  have hk : signK (bAt s p) = 0 := by omega
  have num : Calls Tryz.prog 82 #[.pointer (some ⟨b, 0, none⟩)] w (fun e w' => (if (numAt s p).1 = true then e = .returned (.tuple #[tkV ⟨4, p, (numAt s p).2, noS⟩, .nilIface]) else NextBad A 2 (numAt s p).2 w e w') ∧ Below w.heap.size w w') →
      (oneAt s p = if (numAt s p).1 = true then (0, 0, ⟨4, p, (numAt s p).2, noS⟩) else (2, (numAt s p).2, ⟨0, 0, 0, noS⟩)) → Calls Tryz.prog 82 #[.pointer (some ⟨b, 0, none⟩)] w fun e w' => NextR A (oneAt s p) w e w' ∧ Below w.heap.size w w' := by
    intro hc ho
    by_cases hn : (numAt s p).1 = true
    · rw [if_pos hn] at ho
      refine out ho (hc.mono ?_)
      rintro e w1 ⟨he, hb⟩
      rw [if_pos hn] at he
      exact ⟨he, hb⟩
    · rw [if_neg hn] at ho
      refine bad ho (hc.mono ?_)
      rintro e w1 ⟨he, hb⟩
      rw [if_neg hn] at he
      exact ⟨he, hb⟩
  by_cases h5 : bAt s p = 45
  · rw [if_pos (Or.inl h5)] at hone
    exact num (next_num_minus s p b w hE hs hsc hp hk ⟨h2, h3, h4⟩ h5 trivial) hone
  by_cases h6 : isD (bAt s p) = true
  · rw [if_pos (Or.inr h6)] at hone
    exact num (next_num_digit s p b w hE hs hsc hp hk ⟨h2, h3, h4⟩ h5 h6) hone
  rw [if_neg (fun h => h.elim h5 h6)] at hone
  by_cases h7 : bAt s p = 34
  · rw [if_pos h7] at hone
    have hc := next_text (A := A) (B := B) s p b w hE hs hsc hp (brk_ascii hv hp (by omega)) h7
    cases hk1 : (qAt s (p + 1) []).1 with
    | zero =>
      rw [if_pos hk1] at hone
      refine out hone (hc.mono ?_)
      rintro e w1 ⟨he, hb⟩
      rw [if_pos hk1] at he
      exact ⟨he, hb⟩
    | succ k =>
      rw [if_neg (by omega), hk1] at hone
      refine bad hone (hc.mono ?_)
      rintro e w1 ⟨he, hb⟩
      rw [if_neg (by omega), hk1] at he
      exact ⟨he, hb⟩
  · rw [if_neg h7] at hone
    exact bad hone (next_else s p b w hE hs hsc hp hk ⟨h2, h3, h4⟩ h5 (by rw [Bool.eq_false_iff]; exact h6) h7)

end Go.Proofs.YtibopkodoidjoaaGreatDoor

/- Package scan: blanks. -/
namespace Go.Proofs.YtibopkodoidjoaaGreatDoor
open Go Go.RowKit

theorem grown_refl (w : World) (r : Option Nat) : w.grownBy w r := ⟨rfl, rfl, rfl, Nat.le_refl _, fun _ _ _ => rfl⟩
theorem grown_trans {a b c : World} {r : Option Nat} (h : a.grownBy b r) (k : b.grownBy c r) : a.grownBy c r :=
  ⟨k.os.trans h.os, k.tape.trans h.tape, k.output.trans h.output, Nat.le_trans h.size k.size, fun i hi hr => (k.block i (Nat.lt_of_lt_of_le hi h.size) hr).trans (h.block i hi hr)⟩
theorem grown_set (a : World) (b j : Nat) (v : Value) : a.grownBy (a.setCell ⟨b, j, none⟩ v) (some b) := by
  refine ⟨?_, ?_, ?_, ?_, ?_⟩
  · have := Below.setCell (B := 0) (Below.refl 0 a) (p := ⟨b, j, none⟩) (Nat.zero_le _) v; exact this.os
  · have := Below.setCell (B := 0) (Below.refl 0 a) (p := ⟨b, j, none⟩) (Nat.zero_le _) v; exact this.tape
  · have := Below.setCell (B := 0) (Below.refl 0 a) (p := ⟨b, j, none⟩) (Nat.zero_le _) v; exact this.output
  · have := Below.setCell (B := 0) (Below.refl 0 a) (p := ⟨b, j, none⟩) (Nat.zero_le _) v; exact this.size
  · intro k _ hr
    exact Below.heap_setCell _ _ _ _ (fun h => hr (by rw [h]))
theorem grown_below {a b : World} {r : Nat} {n : Nat} (h : a.grownBy b (some r)) (hn : n ≤ a.heap.size) (hr : n ≤ r) : Below n a b := Below.grown (Below.refl n a) h hn (fun k hk => by cases hk; exact hr)
theorem grown_of_below {a b : World} {r : Option Nat} (h : Below a.heap.size a b) : a.grownBy b r := ⟨h.os, h.tape, h.output, h.size, fun k hk _ => h.block k hk⟩
theorem ScB.set {s : ByteArray} {p q : Int} {b : Nat} {w : World} (h : ScB s p b w) : ScB s q b (w.setCell ⟨b, 1, none⟩ (.int .i64 q)) := by
  unfold ScB at h ⊢
  rw [Lib.heap_setCell_same (i := 1) h]
  rfl
theorem grown_drewN {a b : World} {r : Option Nat} (h : a.grownBy b r) (n : Nat) : a.grownBy (b.drewN n) r := ⟨h.os, h.tape, h.output, h.size, h.block⟩
theorem ScB.drewN {s : ByteArray} {p : Int} {b : Nat} {w : World} (h : ScB s p b w) (n : Nat) : ScB s p b (w.drewN n) := h
def blkI (c : Nat) : Int := Lib.indexByte [32, 9, 10, 13] c.toUInt8
theorem blkI_all : ∀ c, c < 256 → (if blankN c = true then 0 ≤ blkI c else blkI c < 0) := by decide +kernel
set_option maxHeartbeats 1000000 in
theorem blanks_calls (s : ByteArray) (p b : Nat) (w : World) (hs : s.size ≤ 140737488351232) (hp : p ≤ s.size) (hsc : ScB s (p : Int) b w) :
    Calls Tryz.prog 81 #[.pointer (some ⟨b, 0, none⟩)] w fun e w' => e = .returned (.tuple #[]) ∧ ScB s (blkAt s p : Nat) b w' ∧ w.grownBy w' (some b) := by
  obtain ⟨r, hr⟩ : ∃ r, blkAt s p = r := ⟨_, rfl⟩
  rw [hr]
  replace hr := Lib.hid hr
  go_enter Tryz.func81, Tryz.ntmps81
  (go_wp2_with fail; repeat (any_goals (go_quiet (fail); go_wp2_with fail)))
  go_loopg [] (s.size + 1 - p) (fun kq w' => ∃ k : Nat, k ≤ s.size ∧ Hid (blkAt s k = r) ∧ ScB s (k : Int) b w' ∧ Hid (w.grownBy w' (some b)) ∧ kq + k = s.size + 1)
  case atStart => exact ⟨p, hp, hr, hsc, Lib.hid (grown_refl _ _), by omega⟩
  case round =>
    obtain ⟨k, hk, hr2, hsc2, hg, hq⟩ := hrel
    have hx := byte_at s k
    have he := Lib.hid (blkAt_eq s k)
    have x0 := hsc2.s
    have x1 := hsc2.at
    have f1 := freeB hsc2 1
    replace hsc2 := Lib.hid hsc2
    have hk' : (k : Int) ≤ (s.size : Int) := by omega
    have hs' : (s.size : Int) ≤ 140737488351232 := by omega
    by_cases hlt : k < s.size
    · have hlt' : (k : Int) < (s.size : Int) := by omega
      have I : ∀ w, Calls Tryz.prog 96 #[.string ⟨#[32, 9, 10, 13]⟩, .int .u8 (bAt s k : Int)] w fun e w' => e = .returned (.int .i64 (blkI (bAt s k))) ∧ w' = w := fun w => Tryz.strings_IndexByte ⟨#[32, 9, 10, 13]⟩ _ w
      have hi := blkI_all (bAt s k) (bAt_lt s k)
      cases hb : blankN (bAt s k) with
      | true =>
        rw [if_pos hb] at hi
        replace hb := Lib.hid hb
        generalize blkI (bAt s k) = d at *
        generalize bAt s k = c at *
        replace I := Lib.hid I
        go_wp2_with fail
        go_quiet (exact ((I.out _).mono (by rintro e w1 ⟨rfl, rfl⟩; exact ⟨rfl, _, rfl⟩)))
        go_wp2_with fail
        go_roundg (s.size - k)
        case measure => omega
        case rel => exact ⟨k + 1, by omega, Lib.hid (by rw [← hr2.out, he.out, if_pos ⟨hlt, hb.out⟩]), (show ((k : Int) + 1) = ((k + 1 : Nat) : Int) by omega) ▸ (ScB.drewN hsc2.out nq).set, Lib.hid (grown_trans (grown_drewN hg.out nq) (grown_set _ _ _ _)), by omega⟩
      | false =>
        rw [if_neg (by rw [hb]; exact Bool.false_ne_true)] at hi
        replace hb := Lib.hid hb
        generalize blkI (bAt s k) = d at *
        generalize bAt s k = c at *
        replace I := Lib.hid I
        go_wp2_with fail
        go_quiet (exact ((I.out _).mono (by rintro e w1 ⟨rfl, rfl⟩; exact ⟨rfl, _, rfl⟩)))
        go_wp2_with fail
        go_end0
        exact ⟨rfl, by rw [show k = r by rw [← hr2.out, he.out, if_neg (fun h => by rw [hb.out] at h; exact absurd h.2 Bool.false_ne_true)]] at hsc2; exact ScB.drewN hsc2.out nq, grown_drewN hg.out nq⟩
    · have hge : ¬ ((k : Int) < (s.size : Int)) := by omega
      (go_wp2_with fail; repeat (any_goals (go_quiet (fail); go_wp2_with fail)))
      go_end0
      exact ⟨rfl, by rw [show k = r by rw [← hr2.out, he.out, if_neg (fun h => hlt h.1)]] at hsc2; exact hsc2.out, grown_drewN hg.out _⟩

end Go.Proofs.YtibopkodoidjoaaGreatDoor

/- Package scan: the closure of Scan. -/
namespace Go.Proofs.YtibopkodoidjoaaGreatDoor
open Go Go.RowKit

def tkC (t : Tk) : List Value := [.int .i64 (t.kind : Int), .int .i64 (t.fr : Int), .int .i64 (t.to : Int), .string t.text]
theorem infoTk : (Tryz.prog.info? 59).map (fun i => (i.zero, i.size, i.bytes)) = some (some (.agg #[.int .i64 0, .int .i64 0, .int .i64 0, .string ⟨#[]⟩]), 4, 40) := by kernel_rfl
/-- All blocks but c and o are as they were. -/
structure Keep2 (c : Nat) (o : Option Nat) (w w' : World) : Prop where
  os : w'.os = w.os
  tape : w'.tape = w.tape
  output : w'.output = w.output
  size : w.heap.size ≤ w'.heap.size
  block : ∀ k, k < w.heap.size → k ≠ c → some k ≠ o → w'.heap[k]? = w.heap[k]?
set_option maxHeartbeats 1000000 in
set_option maxRecDepth 100000 in
theorem yield_calls (t : Tk) (c base n : Nat) (xs : List Value) (v : Value) (w : World) (hc : w.heap[c]? = some (.cells #[v] 49 (0, 0))) (ho : w.ownsRow base 59 4 v n xs) (hbase : base ≤ w.heap.size) (hcb : c < base) (hn : n + 1 ≤ 3518437208883) :
    Calls Tryz.prog 53 #[tkV t, .pointer (some ⟨c, 0, none⟩)] w fun e w' => e = .returned (.bool true) ∧ ∃ v', w'.heap[c]? = some (.cells #[v'] 49 (0, 0)) ∧ w'.ownsRow base 59 4 v' (n + 1) (xs ++ tkC t) ∧
      (v'.ownBlock = v.ownBlock ∨ ∃ g, v'.ownBlock = some g ∧ w.heap.size ≤ g) ∧ Keep2 c v.ownBlock w w' := by
  obtain ⟨i0, hi, hi2⟩ := Option.map_eq_some_iff.1 infoTk
  simp only [Prod.mk.injEq] at hi2
  obtain ⟨hz0, hz1, hz2⟩ := hi2
  replace hi := Lib.hid hi
  replace hz0 := Lib.hid hz0
  replace hz1 := Lib.hid hz1
  replace hz2 := Lib.hid hz2
  have x0 : w.cell? ⟨c, 0, none⟩ = some v := cellB hc 0 rfl
  have f0 := freeB hc 0
  have hcl := ltB hc
  replace hc := Lib.hid hc
  replace ho := Lib.hid ho
  replace hn := Lib.hid hn
  unfold tkV tkC
  obtain ⟨tk, tf, tt, tx⟩ := t
  simp only
  have hcne : c ≠ w.heap.size := by omega
  generalize (tk : Int) = k1
  generalize (tf : Int) = k2
  generalize (tt : Int) = k3
  go_enter Tryz.func53, Tryz.ntmps53
  go_wp2_with (at_builtin; refine wpList_append_own_at _ rfl _ _ 49 rfl base 59 i0 (.agg #[.int .i64 0, .int .i64 0, .int .i64 0, .string ⟨#[]⟩]) 4 40 Tryz.underlying49 hi.out hz0.out hz1.out hz2.out rfl (by decide) _ _ _ rfl (own_next ho.out ?c0) ⟨w.heap.size + 1, 0, none⟩ 1 1 [.int .i64 k1, .int .i64 k2, .int .i64 k3, .string tx] rfl rfl ?c1 ?c2 ?c3 ?c4 ?c5 ?_)
  case c0 => exact (by repeat (first | assumption | exact Below.refl _ _ | apply Below.drew | apply below_drewN | apply balloc | (refine Below.setCell ?_ (by first | omega | (simp <;> omega)) _)))
  case c1 =>
    intro j u hj
    match j, hj with
    | 0, hj => simp at hj; subst hj; simp [Addr.add]
    | 1, hj => simp at hj; subst hj; simp [Addr.add]
    | 2, hj => simp at hj; subst hj; simp [Addr.add]
    | 3, hj => simp at hj; subst hj; simp [Addr.add]
  case c2 => intro u hu; simp at hu; rcases hu with rfl | rfl | rfl | rfl <;> rfl
  case c3 => have := hn.out; unfold maxLen; omega
  case c4 => have := hn.out; omega
  case c5 => simp; omega
  intro v' w2 ho2 hg _ hown
  have hlt := ho.out.lt
  obtain ⟨g', cap', rfl⟩ : ∃ g cap, v' = .slice (some ⟨g, 0, none⟩) (n + 1) cap := by
    rcases ho2.2 with ⟨_, h⟩ | ⟨g, cap, _, rfl, _⟩
    · omega
    · exact ⟨g, cap, rfl⟩
  have hlt2 := (ho2.lt g' rfl).1
  have hgc : w2.heap[c]? = some (.cells #[v] 49 (0, 0)) := by
    rw [hg.block c (by simp; omega) (fun h => by have := hlt c h.symm; omega)]
    rw [Below.heap_alloc _ _ _ (by simp; omega), Below.heap_alloc _ _ _ (by omega)]
    exact hc.out
  have y0 : w2.cell? ⟨c, 0, none⟩ = some v := cellB hgc 0 rfl
  have g0 := freeB hgc 0
  replace hgc := Lib.hid hgc
  replace hg := Lib.hid hg
  replace hown := Lib.hid hown
  replace ho2 := Lib.hid ho2
  clear x0 f0
  (go_wp2_with fail; repeat (any_goals (go_quiet (fail); go_wp2_with fail)))
  go_ret
  have h1 : w.heap.size ≤ w2.heap.size := by have := hg.out.size; simp at this; omega
  refine ⟨rfl, .slice (some ⟨g', 0, none⟩) (n + 1) cap', ?_, ho2.out.kept (grown_set _ _ _ _) (Or.inr (by show some g' ≠ some c; intro h; cases h; omega)), ?_, ?_⟩
  · rw [Lib.heap_setCell_same (i := 0) hgc.out]; rfl
  · rcases hown.out with h | h
    · exact Or.inl h
    · exact Or.inr ⟨_, h, by first | omega | (simp; omega)⟩
  · have hs := grown_set w2 c 0 (.slice (some ⟨g', 0, none⟩) (n + 1) cap')
    have hg := hg.out
    refine ⟨hs.os.trans hg.os, hs.tape.trans hg.tape, hs.output.trans hg.output, Nat.le_trans h1 hs.size, fun k hk hkc hko => ?_⟩
    rw [hs.block k (by omega) (fun h => hkc (by cases h; rfl)), hg.block k (by simp; omega) hko]
    rw [Below.heap_alloc _ _ _ (by simp; omega), Below.heap_alloc _ _ _ (by omega)]

end Go.Proofs.YtibopkodoidjoaaGreatDoor
