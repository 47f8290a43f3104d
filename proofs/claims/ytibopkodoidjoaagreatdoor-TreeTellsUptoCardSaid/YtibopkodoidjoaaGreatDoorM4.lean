/- Lemmas of the proof, put together: Scan9, Scan10, Utf, Loc, QuotePlain, Single, SRef7, Scan11, Scan12, Num, Tok, Tree1, TreeSpec. -/
import Derived.Test.YtibopkodoidjoaaGreatDoorM3
import Derived.Lib.BufferMore
import Derived.Maps.AppendAt
import Derived.Test.YtibopkodoidjoaaGreatDoorM1
import Derived.Test.YtibopkodoidjoaaGreatDoorM2
import Derived.Deep.DeepCutAuto
import Derived.Great.Walk
import Derived.Laws.Rows
import Derived.Laws.Tables
import Derived.Laws.CopyOwn

/- Package scan: blanks. -/
namespace Go.Proofs.YtibopkodoidjoaaGreatDoor
open Go Go.RowKit

theorem grown_refl (w : World) (r : Option Nat) : w.grownBy w r := ⟨rfl, rfl, rfl, Nat.le_refl _, fun _ _ _ => rfl⟩
theorem grown_trans {a b c : World} {r : Option Nat} (h : a.grownBy b r) (k : b.grownBy c r) : a.grownBy c r :=
  ⟨k.os.trans h.os, k.tape.trans h.tape, k.output.trans h.output, Nat.le_trans h.size k.size, fun i hi hr => (k.block i (Nat.lt_of_lt_of_le hi h.size) hr).trans (h.block i hi hr)⟩
theorem grown_drew {a b : World} {r : Option Nat} (h : a.grownBy b r) : a.grownBy b.drew r := ⟨h.os, h.tape, h.output, h.size, h.block⟩
theorem grown_set (a : World) (b j : Nat) (v : Value) : a.grownBy (a.setCell ⟨b, j, none⟩ v) (some b) := by
  refine ⟨?_, ?_, ?_, ?_, ?_⟩
  · have := Below.setCell (B := 0) (Below.refl 0 a) (p := ⟨b, j, none⟩) (Nat.zero_le _) v; exact this.os
  · have := Below.setCell (B := 0) (Below.refl 0 a) (p := ⟨b, j, none⟩) (Nat.zero_le _) v; exact this.tape
  · have := Below.setCell (B := 0) (Below.refl 0 a) (p := ⟨b, j, none⟩) (Nat.zero_le _) v; exact this.output
  · have := Below.setCell (B := 0) (Below.refl 0 a) (p := ⟨b, j, none⟩) (Nat.zero_le _) v; exact this.size
  · intro k _ hr
    exact Below.heap_setCell _ _ _ _ (fun h => hr (by rw [h]))
theorem grown_below {a b : World} {r : Nat} {n : Nat} (h : a.grownBy b (some r)) (hn : n ≤ a.heap.size) (hr : n ≤ r) : Below n a b := Below.grown (Below.refl n a) h hn (fun k hk => by cases hk; exact hr)
theorem grown_of_below {a b : World} {r : Option Nat} (h : Below a.heap.size a b) : a.grownBy b r := ⟨h.os, h.tape, h.output, h.size, fun k hk _ => h.block k hk⟩
theorem ScB.set {s : ByteArray} {p q : Int} {b : Nat} {w : World} (h : ScB s p b w) : ScB s q b (w.setCell ⟨b, 1, none⟩ (.int .i64 q)) := by
  unfold ScB at h ⊢
  rw [Lib.heap_setCell_same (i := 1) h]
  rfl
theorem grown_drewN {a b : World} {r : Option Nat} (h : a.grownBy b r) (n : Nat) : a.grownBy (b.drewN n) r := ⟨h.os, h.tape, h.output, h.size, h.block⟩
theorem ScB.drewN {s : ByteArray} {p : Int} {b : Nat} {w : World} (h : ScB s p b w) (n : Nat) : ScB s p b (w.drewN n) := h
def blkI (c : Nat) : Int := Lib.indexByte [32, 9, 10, 13] c.toUInt8
theorem blkI_all : ∀ c, c < 256 → (if blankN c = true then 0 ≤ blkI c else blkI c < 0) := by decide +kernel
set_option maxHeartbeats 1000000 in
theorem blanks_calls (s : ByteArray) (p b : Nat) (w : World) (hs : s.size ≤ 140737488351232) (hp : p ≤ s.size) (hsc : ScB s (p : Int) b w) :
    Calls Tryz.prog 81 #[.pointer (some ⟨b, 0, none⟩)] w fun e w' => e = .returned (.tuple #[]) ∧ ScB s (blkAt s p : Nat) b w' ∧ w.grownBy w' (some b) := by
  obtain ⟨r, hr⟩ : ∃ r, blkAt s p = r := ⟨_, rfl⟩
  rw [hr]
  replace hr := Lib.hid hr
  go_enter Tryz.func81, Tryz.ntmps81
  (go_wp2_with fail; repeat (any_goals (go_quiet (fail); go_wp2_with fail)))
  go_loopg [] (s.size + 1 - p) (fun kq w' => ∃ k : Nat, k ≤ s.size ∧ Hid (blkAt s k = r) ∧ ScB s (k : Int) b w' ∧ Hid (w.grownBy w' (some b)) ∧ kq + k = s.size + 1)
  case atStart => exact ⟨p, hp, hr, hsc, Lib.hid (grown_refl _ _), by omega⟩
  case round =>
    obtain ⟨k, hk, hr2, hsc2, hg, hq⟩ := hrel
    have hx := byte_at s k
    have he := Lib.hid (blkAt_eq s k)
    have x0 := hsc2.s
    have x1 := hsc2.at
    have f1 := freeB hsc2 1
    replace hsc2 := Lib.hid hsc2
    have hk' : (k : Int) ≤ (s.size : Int) := by omega
    have hs' : (s.size : Int) ≤ 140737488351232 := by omega
    by_cases hlt : k < s.size
    · have hlt' : (k : Int) < (s.size : Int) := by omega
      have I : ∀ w, Calls Tryz.prog 96 #[.string ⟨#[32, 9, 10, 13]⟩, .int .u8 (bAt s k : Int)] w fun e w' => e = .returned (.int .i64 (blkI (bAt s k))) ∧ w' = w := fun w => Tryz.strings_IndexByte ⟨#[32, 9, 10, 13]⟩ _ w
      have hi := blkI_all (bAt s k) (bAt_lt s k)
      cases hb : blankN (bAt s k) with
      | true =>
        rw [if_pos hb] at hi
        replace hb := Lib.hid hb
        generalize blkI (bAt s k) = d at *
        generalize bAt s k = c at *
        replace I := Lib.hid I
        go_wp2_with fail
        go_quiet (exact ((I.out _).mono (by rintro e w1 ⟨rfl, rfl⟩; exact ⟨rfl, _, rfl⟩)))
        go_wp2_with fail
        go_roundg (s.size - k)
        case measure => omega
        case rel => exact ⟨k + 1, by omega, Lib.hid (by rw [← hr2.out, he.out, if_pos ⟨hlt, hb.out⟩]), (show ((k : Int) + 1) = ((k + 1 : Nat) : Int) by omega) ▸ (ScB.drewN hsc2.out nq).set, Lib.hid (grown_trans (grown_drewN hg.out nq) (grown_set _ _ _ _)), by omega⟩
      | false =>
        rw [if_neg (by rw [hb]; exact Bool.false_ne_true)] at hi
        replace hb := Lib.hid hb
        generalize blkI (bAt s k) = d at *
        generalize bAt s k = c at *
        replace I := Lib.hid I
        go_wp2_with fail
        go_quiet (exact ((I.out _).mono (by rintro e w1 ⟨rfl, rfl⟩; exact ⟨rfl, _, rfl⟩)))
        go_wp2_with fail
        go_end0
        exact ⟨rfl, by rw [show k = r by rw [← hr2.out, he.out, if_neg (fun h => by rw [hb.out] at h; exact absurd h.2 Bool.false_ne_true)]] at hsc2; exact ScB.drewN hsc2.out nq, grown_drewN hg.out nq⟩
    · have hge : ¬ ((k : Int) < (s.size : Int)) := by omega
      (go_wp2_with fail; repeat (any_goals (go_quiet (fail); go_wp2_with fail)))
      go_end0
      exact ⟨rfl, by rw [show k = r by rw [← hr2.out, he.out, if_neg (fun h => hlt h.1)]] at hsc2; exact hsc2.out, grown_drewN hg.out _⟩

end Go.Proofs.YtibopkodoidjoaaGreatDoor

/- Package scan: the closure of Scan. -/
namespace Go.Proofs.YtibopkodoidjoaaGreatDoor
open Go Go.RowKit

def tkC (t : Tk) : List Value := [.int .i64 (t.kind : Int), .int .i64 (t.fr : Int), .int .i64 (t.to : Int), .string t.text]
theorem infoTk : (Tryz.prog.info? 59).map (fun i => (i.zero, i.size, i.bytes)) = some (some (.agg #[.int .i64 0, .int .i64 0, .int .i64 0, .string ⟨#[]⟩]), 4, 40) := by kernel_rfl
/-- All blocks but c and o are as they were. -/
structure Keep2 (c : Nat) (o : Option Nat) (w w' : World) : Prop where
  os : w'.os = w.os
  tape : w'.tape = w.tape
  output : w'.output = w.output
  size : w.heap.size ≤ w'.heap.size
  block : ∀ k, k < w.heap.size → k ≠ c → some k ≠ o → w'.heap[k]? = w.heap[k]?
set_option maxHeartbeats 1000000 in
set_option maxRecDepth 100000 in
theorem yield_calls (t : Tk) (c base n : Nat) (xs : List Value) (v : Value) (w : World) (hc : w.heap[c]? = some (.cells #[v] 49 (0, 0))) (ho : w.ownsRow base 59 4 v n xs) (hbase : base ≤ w.heap.size) (hcb : c < base) (hn : n + 1 ≤ 3518437208883) :
    Calls Tryz.prog 53 #[tkV t, .pointer (some ⟨c, 0, none⟩)] w fun e w' => e = .returned (.bool true) ∧ ∃ v', w'.heap[c]? = some (.cells #[v'] 49 (0, 0)) ∧ w'.ownsRow base 59 4 v' (n + 1) (xs ++ tkC t) ∧
      (v'.ownBlock = v.ownBlock ∨ ∃ g, v'.ownBlock = some g ∧ w.heap.size ≤ g) ∧ Keep2 c v.ownBlock w w' := by
  obtain ⟨i0, hi, hi2⟩ := Option.map_eq_some_iff.1 infoTk
  simp only [Prod.mk.injEq] at hi2
  obtain ⟨hz0, hz1, hz2⟩ := hi2
  replace hi := Lib.hid hi
  replace hz0 := Lib.hid hz0
  replace hz1 := Lib.hid hz1
  replace hz2 := Lib.hid hz2
  have x0 : w.cell? ⟨c, 0, none⟩ = some v := cellB hc 0 rfl
  have f0 := freeB hc 0
  have hcl := ltB hc
  replace hc := Lib.hid hc
  replace ho := Lib.hid ho
  replace hn := Lib.hid hn
  unfold tkV tkC
  obtain ⟨tk, tf, tt, tx⟩ := t
  simp only
  have hcne : c ≠ w.heap.size := by omega
  generalize (tk : Int) = k1
  generalize (tf : Int) = k2
  generalize (tt : Int) = k3
  go_enter Tryz.func53, Tryz.ntmps53
  go_wp2_with (at_builtin; refine wpList_append_own_at _ rfl _ _ 49 rfl base 59 i0 (.agg #[.int .i64 0, .int .i64 0, .int .i64 0, .string ⟨#[]⟩]) 4 40 Tryz.underlying49 hi.out hz0.out hz1.out hz2.out rfl (by decide) _ _ _ rfl (own_next ho.out ?c0) ⟨w.heap.size + 1, 0, none⟩ 1 1 [.int .i64 k1, .int .i64 k2, .int .i64 k3, .string tx] rfl rfl ?c1 ?c2 ?c3 ?c4 ?c5 ?_)
  case c0 => exact (by repeat (first | assumption | exact Below.refl _ _ | apply Below.drew | apply below_drewN | apply balloc | (refine Below.setCell ?_ (by first | omega | (simp <;> omega)) _)))
  case c1 =>
    intro j u hj
    match j, hj with
    | 0, hj => simp at hj; subst hj; simp [Addr.add]
    | 1, hj => simp at hj; subst hj; simp [Addr.add]
    | 2, hj => simp at hj; subst hj; simp [Addr.add]
    | 3, hj => simp at hj; subst hj; simp [Addr.add]
  case c2 => intro u hu; simp at hu; rcases hu with rfl | rfl | rfl | rfl <;> rfl
  case c3 => have := hn.out; unfold maxLen; omega
  case c4 => have := hn.out; omega
  case c5 => simp; omega
  intro v' w2 ho2 hg _ hown
  have hlt := ho.out.lt
  obtain ⟨g', cap', rfl⟩ : ∃ g cap, v' = .slice (some ⟨g, 0, none⟩) (n + 1) cap := by
    rcases ho2.2 with ⟨_, h⟩ | ⟨g, cap, _, rfl, _⟩
    · omega
    · exact ⟨g, cap, rfl⟩
  have hlt2 := (ho2.lt g' rfl).1
  have hgc : w2.heap[c]? = some (.cells #[v] 49 (0, 0)) := by
    rw [hg.block c (by simp; omega) (fun h => by have := hlt c h.symm; omega)]
    rw [Below.heap_alloc _ _ _ (by simp; omega), Below.heap_alloc _ _ _ (by omega)]
    exact hc.out
  have y0 : w2.cell? ⟨c, 0, none⟩ = some v := cellB hgc 0 rfl
  have g0 := freeB hgc 0
  replace hgc := Lib.hid hgc
  replace hg := Lib.hid hg
  replace hown := Lib.hid hown
  replace ho2 := Lib.hid ho2
  clear x0 f0
  (go_wp2_with fail; repeat (any_goals (go_quiet (fail); go_wp2_with fail)))
  go_ret
  have h1 : w.heap.size ≤ w2.heap.size := by have := hg.out.size; simp at this; omega
  refine ⟨rfl, .slice (some ⟨g', 0, none⟩) (n + 1) cap', ?_, ho2.out.kept (grown_set _ _ _ _) (Or.inr (by show some g' ≠ some c; intro h; cases h; omega)), ?_, ?_⟩
  · rw [Lib.heap_setCell_same (i := 0) hgc.out]; rfl
  · rcases hown.out with h | h
    · exact Or.inl h
    · exact Or.inr ⟨_, h, by first | omega | (simp; omega)⟩
  · have hs := grown_set w2 c 0 (.slice (some ⟨g', 0, none⟩) (n + 1) cap')
    have hg := hg.out
    refine ⟨hs.os.trans hg.os, hs.tape.trans hg.tape, hs.output.trans hg.output, Nat.le_trans h1 hs.size, fun k hk hkc hko => ?_⟩
    rw [hs.block k (by omega) (fun h => hkc (by cases h; rfl)), hg.block k (by simp; omega) hko]
    rw [Below.heap_alloc _ _ _ (by simp; omega), Below.heap_alloc _ _ _ (by omega)]

end Go.Proofs.YtibopkodoidjoaaGreatDoor

/- Plain laws: a text is UTF-8 just if its bytes are the encodings of scalars. No program in sight. -/
namespace Go.Proofs.YtibopkodoidjoaaGreatDoor
open Go Go.RowKit

/-- The bytes from i on, up to j. -/
def bs (s : ByteArray) (i j : Nat) : List Nat := (List.range (j - i)).map fun k => bAt s (i + k)
theorem bs_len (s : ByteArray) (i j : Nat) : (bs s i j).length = j - i := by unfold bs; simp
theorem bs_self (s : ByteArray) (i : Nat) : bs s i i = [] := by unfold bs; rw [Nat.sub_self]; rfl
theorem bs_append (s : ByteArray) {i j k : Nat} (h1 : i ≤ j) (h2 : j ≤ k) : bs s i j ++ bs s j k = bs s i k := by
  unfold bs
  rw [show k - i = (j - i) + (k - j) by omega, List.range_add, List.map_append, List.map_map]
  congr 1
  apply List.map_congr_left
  intro a _
  show bAt s (j + a) = bAt s (i + (j - i + a))
  rw [show i + (j - i + a) = j + a by omega]
theorem bs_one (s : ByteArray) (i : Nat) : bs s i (i + 1) = [bAt s i] := by
  unfold bs
  rw [show i + 1 - i = 1 by omega]; rfl
theorem bs_cons (s : ByteArray) {i k : Nat} (h : i < k) : bs s i k = bAt s i :: bs s (i + 1) k := by
  rw [← bs_append s (Nat.le_succ i) h, bs_one]; rfl
theorem bs_congr {s t : ByteArray} {i k n : Nat} (h : ∀ j, j < n → bAt t (k + j) = bAt s (i + j)) : bs t k (k + n) = bs s i (i + n) := by
  unfold bs
  rw [show k + n - k = n by omega, show i + n - i = n by omega]
  apply List.map_congr_left
  intro a ha
  exact h a (List.mem_range.1 ha)

/-- The bytes are the encodings of scalars. -/
def VL (l : List Nat) : Prop := ∃ rs : List Nat, (∀ r ∈ rs, scalarN r = true) ∧ l = rs.flatMap encN
theorem VL.nil : VL [] := ⟨[], by simp, rfl⟩
theorem VL.append {l m : List Nat} (h1 : VL l) (h2 : VL m) : VL (l ++ m) := by
  obtain ⟨a, ha, rfl⟩ := h1
  obtain ⟨b, hb, rfl⟩ := h2
  refine ⟨a ++ b, fun r hr => ?_, by rw [List.flatMap_append]⟩
  rcases List.mem_append.1 hr with h | h
  · exact ha r h
  · exact hb r h
theorem VL.enc {r : Nat} (h : scalarN r = true) : VL (encN r) := ⟨[r], by simpa using h, by simp⟩
theorem VL.one {c : Nat} (h : c < 128) : VL [c] := by
  have := VL.enc (r := c) (scalarN_iff.2 (by omega))
  unfold encN at this
  rwa [if_pos h] at this
theorem VL.ascii {l : List Nat} (h : ∀ c ∈ l, c < 128) : VL l := by
  induction l with
  | nil => exact VL.nil
  | cons c l ih => exact VL.append (l := [c]) (VL.one (h c (List.mem_cons_self ..))) (ih fun d hd => h d (List.mem_cons_of_mem _ hd))
theorem encN_pos (r : Nat) : 0 < (encN r).length := by
  rw [encN_len]; repeat' split
  all_goals omega
theorem refF_enc {r : Nat} (h : scalarN r = true) (b : Nat → Nat) (n : Nat) (hb : (List.range (encN r).length).map b = encN r) (hn : (encN r).length ≤ n) : refF b n = (r, (encN r).length) := by
  have hs := scalarN_iff.1 h
  have key : ∀ m, (encN r).length = m → rN (b 0) = m → accB b (m - 1) = r → refF b n = (r, m) := by
    intro m h1 h2 h3
    unfold refF
    rw [h2, h3, if_neg (by omega), if_pos ⟨h, by rw [← hb, h1]⟩]
  by_cases k1 : r < 128
  · have e : encN r = [r] := by unfold encN; rw [if_pos k1]
    rw [e] at hb ⊢
    simp [List.range_succ] at hb
    exact key 1 (by rw [e]; rfl) (by rw [hb]; unfold rN; rw [if_neg (by omega), if_neg (by omega), if_neg (by omega)]) (by show rB (b 0) = r; rw [hb]; unfold rB; rw [if_neg (by omega), if_neg (by omega), if_neg (by omega)])
  by_cases k2 : r < 2048
  · have e : encN r = [192 + r / 64, 128 + r % 64] := by unfold encN; rw [if_neg k1, if_pos k2]
    rw [e] at hb ⊢
    simp [List.range_succ] at hb
    refine key 2 (by rw [e]; rfl) (by rw [hb.1]; unfold rN; rw [if_neg (by omega), if_neg (by omega), if_pos (by omega)]) ?_
    show rB (b 0) * 64 + b (0 + 1) % 64 = r
    rw [hb.1, hb.2]; unfold rB; rw [if_neg (by omega), if_neg (by omega), if_pos (by omega)]; omega
  by_cases k3 : r < 65536
  · have e : encN r = [224 + r / 4096, 128 + r / 64 % 64, 128 + r % 64] := by unfold encN; rw [if_neg k1, if_neg k2, if_pos k3]
    rw [e] at hb ⊢
    simp [List.range_succ] at hb
    refine key 3 (by rw [e]; rfl) (by rw [hb.1]; unfold rN; rw [if_neg (by omega), if_pos (by omega)]) ?_
    show (rB (b 0) * 64 + b (0 + 1) % 64) * 64 + b (1 + 1) % 64 = r
    rw [hb.1, hb.2.1, hb.2.2]; unfold rB; rw [if_neg (by omega), if_pos (by omega)]; omega
  · have e : encN r = [240 + r / 262144, 128 + r / 4096 % 64, 128 + r / 64 % 64, 128 + r % 64] := by unfold encN; rw [if_neg k1, if_neg k2, if_neg k3]
    rw [e] at hb ⊢
    simp [List.range_succ] at hb
    refine key 4 (by rw [e]; rfl) (by rw [hb.1]; unfold rN; rw [if_pos (by omega)]) ?_
    show ((rB (b 0) * 64 + b (0 + 1) % 64) * 64 + b (1 + 1) % 64) * 64 + b (2 + 1) % 64 = r
    rw [hb.1, hb.2.1, hb.2.2.1, hb.2.2.2]; unfold rB; rw [if_pos (by omega)]; omega
theorem vl_brk (s : ByteArray) : ∀ (rs : List Nat) (i : Nat), (∀ r ∈ rs, scalarN r = true) → i ≤ s.size → bs s i s.size = rs.flatMap encN → brkAt s i = s.size
  | [], i, _, hi, h => by
    have := bs_len s i s.size
    rw [h] at this
    simp at this
    rw [brkAt_eq, if_neg (by omega)]; omega
  | r :: rs, i, hr, hi, h => by
    have hl := bs_len s i s.size
    rw [h, List.flatMap_cons, List.length_append] at hl
    have hp := encN_pos r
    have ha := bs_append s (i := i) (j := i + (encN r).length) (k := s.size) (by omega) (by omega)
    rw [h, List.flatMap_cons] at ha
    obtain ⟨h1, h2⟩ := List.append_inj ha (by rw [bs_len]; omega)
    have hre : refAt s i = (r, (encN r).length) := by
      refine refF_enc (hr r (List.mem_cons_self ..)) _ _ ?_ (by omega)
      have h3 := h1
      unfold bs at h3
      rw [show i + (encN r).length - i = (encN r).length by omega] at h3
      exact h3
    have hw : widthAt s i = (encN r).length := by unfold widthAt; rw [← refAt_eq (by omega), hre]
    rw [brkAt_eq, if_pos (by omega), hw, if_neg (by omega)]
    exact vl_brk s rs _ (fun q hq => hr q (List.mem_cons_of_mem _ hq)) (by omega) h2
theorem brk_vl (s : ByteArray) : ∀ (n i : Nat), s.size - i ≤ n → i ≤ s.size → brkAt s i = s.size → VL (bs s i s.size)
  | 0, i, h1, h2, _ => by rw [show i = s.size by omega, bs_self]; exact VL.nil
  | n + 1, i, h1, h2, hb => by
    by_cases h : i < s.size
    · obtain ⟨h0, hb2⟩ := brk_next h hb
      obtain ⟨hs, he, hw, hle, _⟩ := rune_cases h h0
      rw [hw] at h0
      rw [← bs_append s (i := i) (j := i + (refAt s i).2) (k := s.size) (by omega) hle]
      refine VL.append ?_ (brk_vl s n _ (by omega) hle hb2)
      have : bs s i (i + (refAt s i).2) = encN (refAt s i).1 := by
        rw [he]; unfold bs
        rw [show i + (refAt s i).2 - i = (refAt s i).2 by omega]
      rw [this]; exact VL.enc hs
    · rw [show i = s.size by omega, bs_self]; exact VL.nil
/-- A byte behind a scalar's first begins none. -/
theorem cont_no (b : Nat → Nat) (n : Nat) (h1 : 128 ≤ b 0) (h2 : b 0 < 192) : refF b n = (0, 0) := by
  have e : rN (b 0) = 1 := by unfold rN; rw [if_neg (by omega), if_neg (by omega), if_neg (by omega)]
  unfold refF
  rw [e]
  split
  · rfl
  · rw [if_neg]
    rintro ⟨_, h⟩
    have ac : accB b (1 - 1) = b 0 := by
      show rB (b 0) = b 0
      unfold rB; rw [if_neg (by omega), if_neg (by omega), if_neg (by omega)]
    rw [ac] at h
    have hl := congrArg List.length h
    rw [encN_len] at hl
    simp at hl
    repeat' split at hl
    all_goals omega
theorem encN_tail {r : Nat} (h : scalarN r = true) : ∀ j, 0 < j → j < (encN r).length → 128 ≤ (encN r).getD j 0 ∧ (encN r).getD j 0 < 192 := by
  have hs := scalarN_iff.1 h
  intro j h1 h2
  unfold encN at h2 ⊢
  split at h2
  · simp at h2; omega
  · rename_i k1
    rw [if_neg k1]
    split at h2
    · rename_i k2
      rw [if_pos k2]
      simp at h2
      obtain rfl : j = 1 := by omega
      simp; omega
    · rename_i k2
      rw [if_neg k2]
      split at h2
      · rename_i k3
        rw [if_pos k3]
        simp at h2
        rcases (show j = 1 ∨ j = 2 by omega) with rfl | rfl <;> (simp; omega)
      · rename_i k3
        rw [if_neg k3]
        simp at h2
        rcases (show j = 1 ∨ j = 2 ∨ j = 3 by omega) with rfl | rfl | rfl <;> (simp; omega)
/-- Between two places where scalars begin lie whole scalars. -/
theorem seg_vl (s : ByteArray) (j : Nat) (hj : j ≤ s.size) (hbj : brkAt s j = s.size) : ∀ (n i : Nat), j - i ≤ n → i ≤ j → brkAt s i = s.size → VL (bs s i j)
  | 0, i, h1, h2, _ => by rw [show i = j by omega, bs_self]; exact VL.nil
  | n + 1, i, h1, h2, hb => by
    by_cases h : i < j
    · obtain ⟨h0, hb2⟩ := brk_next (show i < s.size by omega) hb
      obtain ⟨hs, he, hw, hle, _⟩ := rune_cases (show i < s.size by omega) h0
      rw [hw] at h0
      have hbs : bs s i (i + (refAt s i).2) = encN (refAt s i).1 := by
        rw [he]; unfold bs
        rw [show i + (refAt s i).2 - i = (refAt s i).2 by omega]
      by_cases hc : i + (refAt s i).2 ≤ j
      · rw [← bs_append s (i := i) (j := i + (refAt s i).2) (k := j) (by omega) hc]
        refine VL.append ?_ (seg_vl s j hj hbj n _ (by omega) hc hb2)
        rw [hbs]; exact VL.enc hs
      · exfalso
        have hlen : (encN (refAt s i).1).length = (refAt s i).2 := by rw [he]; simp
        have ht := encN_tail hs (j - i) (by omega) (by omega)
        have hv : (encN (refAt s i).1).getD (j - i) 0 = bAt s j := by
          rw [he, List.getD_eq_getElem?_getD, List.getElem?_map, List.getElem?_range (by omega)]
          simp [show i + (j - i) = j by omega]
        rw [hv] at ht
        obtain ⟨h3, _⟩ := brk_next (show j < s.size by omega) hbj
        apply h3
        unfold widthAt
        rw [← refAt_eq (by omega)]
        unfold refAt
        rw [cont_no _ _ (by simpa using ht.1) (by simpa using ht.2)]
    · rw [show i = j by omega, bs_self]; exact VL.nil
theorem utfE_brk (s : ByteArray) : utfE s = 0 ↔ brkAt s 0 = s.size := by
  have := brkAt_le s
  unfold utfE
  split <;> omega
theorem utfE_iff (s : ByteArray) : utfE s = 0 ↔ VL (bs s 0 s.size) := by
  rw [utfE_brk]
  constructor
  · exact brk_vl s _ 0 (Nat.le_refl _) (Nat.zero_le _)
  · rintro ⟨rs, hr, h⟩
    exact vl_brk s rs 0 hr (Nat.zero_le _) h
/-- Bytes of a list. -/
def nthN (l : List UInt8) (k : Nat) : Nat := ((l[k]?).map UInt8.toNat).getD 0
theorem bAt_nth (s : ByteArray) (k : Nat) : bAt s k = nthN s.data.toList k := by
  unfold bAt nthN
  by_cases h : k < s.size
  · rw [dif_pos h, List.getElem?_eq_getElem (by simpa using h)]
    rfl
  · rw [dif_neg h, List.getElem?_eq_none (by simpa using h)]
    rfl
theorem bAt_mk (l : List UInt8) (k : Nat) : bAt ⟨l.toArray⟩ k = nthN l k := by rw [bAt_nth]
theorem size_mk (l : List UInt8) : (⟨l.toArray⟩ : ByteArray).size = l.length := by show l.toArray.size = _; simp
theorem nth_left {l m : List UInt8} {k : Nat} (h : k < l.length) : nthN (l ++ m) k = nthN l k := by unfold nthN; rw [List.getElem?_append_left h]
theorem nth_right (l m : List UInt8) (k : Nat) : nthN (l ++ m) (l.length + k) = nthN m k := by unfold nthN; rw [List.getElem?_append_right (by omega), show l.length + k - l.length = k by omega]
theorem bs_list (s : ByteArray) : bs s 0 s.size = s.data.toList.map UInt8.toNat := by
  unfold bs
  apply List.ext_getElem
  · simp
  · intro i h1 h2
    simp at h1
    simp
    rw [← bAt_eq s i h1]; rfl
theorem utfE_mk (l : List UInt8) : utfE ⟨l.toArray⟩ = 0 ↔ VL (l.map UInt8.toNat) := by rw [utfE_iff, bs_list]

end Go.Proofs.YtibopkodoidjoaaGreatDoor

/- Plain laws: a token depends on its own bytes alone (a number on the byte behind it too); what a scan answers, as a chain. No program in sight. -/
namespace Go.Proofs.YtibopkodoidjoaaGreatDoor
open Go Go.RowKit

/-- n bytes of t at k are those of s at i. -/
def Agr (s t : ByteArray) (i k n : Nat) : Prop := ∀ j, j < n → bAt t (k + j) = bAt s (i + j)
/-- No number goes on with this byte. -/
def stopB (c : Nat) : Prop := isD c = false ∧ c ≠ 46 ∧ c ≠ 101 ∧ c ≠ 69
structure Loc (s t : ByteArray) (i k n : Nat) : Prop where
  ag : Agr s t i k n
  nx : bAt t (k + n) = bAt s (i + n) ∨ stopB (bAt t (k + n))
theorem Loc.tst {s t : ByteArray} {i k n a : Nat} (h : Loc s t i k n) (ha : a ≤ n) (p : Nat → Prop) (hp : ¬ p (bAt s (i + a))) (hst : ∀ c, stopB c → ¬ p c) : ¬ p (bAt t (k + a)) := by
  by_cases hlt : a < n
  · rw [h.ag a hlt]; exact hp
  · obtain rfl : a = n := by omega
    rcases h.nx with hx | hx
    · rw [hx]; exact hp
    · exact hst _ hx
theorem Loc.noD {s t : ByteArray} {i k n a : Nat} (h : Loc s t i k n) (ha : a ≤ n) (hs : isD (bAt s (i + a)) = false) : isD (bAt t (k + a)) = false := by
  have := h.tst ha (fun c => isD c = true) (by rw [hs]; simp) (fun c hc => by rw [hc.1]; simp)
  simpa using this
theorem dig_loc {s t : ByteArray} {i k n : Nat} (h : Loc s t i k n) : ∀ m a, a + m ≤ n → digAt s (i + a) = i + (a + m) → digAt t (k + a) = k + (a + m)
  | 0, a, ha, hd => by
    rw [Nat.add_zero] at hd ⊢
    exact digAt_none.2 (h.noD ha (digAt_none.1 hd))
  | m + 1, a, ha, hd => by
    have hD : isD (bAt s (i + a)) = true := by
      cases hx : isD (bAt s (i + a)) with
      | true => rfl
      | false => have := digAt_none.2 hx; omega
    rw [digAt_eq, if_pos hD] at hd
    rw [digAt_eq, h.ag a (by omega), if_pos hD]
    have := dig_loc h m (a + 1) (by omega) (by rw [show i + (a + 1) = i + a + 1 by omega, hd]; omega)
    rw [show k + a + 1 = k + (a + 1) by omega, this]; omega
theorem frac_loc {s t : ByteArray} {i k n a b : Nat} (h : Loc s t i k n) (hb : b ≤ n) (hf : fracAt s (i + a) = (true, i + b)) : fracAt t (k + a) = (true, k + b) := by
  unfold fracAt at hf ⊢
  by_cases h46 : bAt s (i + a) = 46
  · rw [if_pos h46] at hf
    by_cases hd : digAt s (i + a + 1) = i + a + 1
    · rw [if_pos hd] at hf; simp at hf
    · rw [if_neg hd] at hf
      simp only [Prod.mk.injEq, true_and] at hf
      have h1 := digAt_ge s (i + a + 1)
      have h2 := dig_loc h (b - (a + 1)) (a + 1) (by omega) (by rw [show i + (a + 1) = i + a + 1 by omega, hf]; omega)
      rw [show k + (a + 1) = k + a + 1 by omega] at h2
      rw [h.ag a (by omega), if_pos h46, h2, if_neg (by omega)]
      congr 1; omega
  · rw [if_neg h46] at hf
    simp only [Prod.mk.injEq, true_and] at hf
    obtain rfl : a = b := by omega
    rw [if_neg (h.tst hb (fun c => c = 46) h46 (fun c hc => hc.2.1))]
theorem exp_loc {s t : ByteArray} {i k n a b : Nat} (h : Loc s t i k n) (hb : b ≤ n) (hf : expAt s (i + a) = (true, i + b)) : expAt t (k + a) = (true, k + b) := by
  unfold expAt at hf ⊢
  by_cases h46 : bAt s (i + a) = 101 ∨ bAt s (i + a) = 69
  · rw [if_pos h46] at hf
    by_cases hd : digAt s (signAt s (i + a)) = signAt s (i + a)
    · rw [if_pos hd] at hf; simp at hf
    · rw [if_neg hd] at hf
      simp only [Prod.mk.injEq, true_and] at hf
      have h1 := digAt_ge s (signAt s (i + a))
      unfold signAt at hd hf h1
      by_cases hs : bAt s (i + a + 1) = 43 ∨ bAt s (i + a + 1) = 45
      · rw [if_pos hs] at hd hf h1
        have e1 : bAt t (k + a + 1) = bAt s (i + a + 1) := h.ag (a + 1) (by omega)
        have h2 := dig_loc h (b - (a + 2)) (a + 2) (by omega) (by rw [show i + (a + 2) = i + a + 2 by omega, hf]; omega)
        rw [show k + (a + 2) = k + a + 2 by omega] at h2
        rw [h.ag a (by omega), if_pos h46]
        unfold signAt
        rw [e1, if_pos hs, h2, if_neg (by omega)]
        congr 1; omega
      · rw [if_neg hs] at hd hf h1
        have e1 : bAt t (k + a + 1) = bAt s (i + a + 1) := h.ag (a + 1) (by omega)
        have h2 := dig_loc h (b - (a + 1)) (a + 1) (by omega) (by rw [show i + (a + 1) = i + a + 1 by omega, hf]; omega)
        rw [show k + (a + 1) = k + a + 1 by omega] at h2
        rw [h.ag a (by omega), if_pos h46]
        unfold signAt
        rw [e1, if_neg hs, h2, if_neg (by omega)]
        congr 1; omega
  · rw [if_neg h46] at hf
    simp only [Prod.mk.injEq, true_and] at hf
    obtain rfl : a = b := by omega
    rw [if_neg (h.tst hb (fun c => c = 101 ∨ c = 69) h46 (fun c hc => by rintro (e | e); exact hc.2.2.1 e; exact hc.2.2.2 e))]
theorem head_loc {s t : ByteArray} {i k n a b : Nat} (h : Loc s t i k n) (ha : a < n) (hb : b ≤ n) (hf : headAt s (i + a) = i + b) (hab : a ≤ b) : headAt t (k + a) = k + b := by
  unfold headAt at hf ⊢
  rw [h.ag a ha]
  by_cases h48 : bAt s (i + a) = 48
  · rw [if_pos h48] at hf ⊢; omega
  · rw [if_neg h48] at hf ⊢
    have := dig_loc h (b - a) a (by omega) (by rw [hf]; omega)
    rw [this]; omega
theorem num_loc {s t : ByteArray} {i k n : Nat} (hi : i < s.size) (h : Loc s t i k n) (hf : numAt s i = (true, i + n)) : numAt t k = (true, k + n) := by
  have hn : 0 < n := by
    have := (numAt_bd s i hi).2.2 (by rw [hf])
    rw [hf] at this; simp only at this; omega
  have e0 : bAt t k = bAt s i := h.ag 0 hn
  obtain ⟨a0, hm, hm', ha0⟩ : ∃ a0, minAt s i = i + a0 ∧ minAt t k = k + a0 ∧ a0 ≤ 1 := by
    unfold minAt
    rw [e0]
    by_cases h45 : bAt s i = 45
    · exact ⟨1, by rw [if_pos h45], by rw [if_pos h45], by omega⟩
    · exact ⟨0, by rw [if_neg h45]; rfl, by rw [if_neg h45]; rfl, by omega⟩
  unfold numAt at hf ⊢
  rw [hm] at hf
  rw [hm']
  by_cases hD : isD (bAt s (i + a0)) = true
  · rw [if_pos hD] at hf
    have hh := headAt_bd s (i + a0) hD
    obtain ⟨a1, e1⟩ : ∃ a1, headAt s (i + a0) = i + a1 := ⟨headAt s (i + a0) - i, by omega⟩
    rw [e1] at hf hh
    have hfr := fracAt_bd s (i + a1) hh.2
    cases hx : (fracAt s (i + a1)).1 with
    | false =>
      rw [hx, if_neg (by simp)] at hf
      rw [hf] at hx; simp at hx
    | true =>
      rw [hx, if_pos rfl] at hf
      obtain ⟨a2, e2⟩ : ∃ a2, (fracAt s (i + a1)).2 = i + a2 := ⟨(fracAt s (i + a1)).2 - i, by omega⟩
      have hfe : fracAt s (i + a1) = (true, i + a2) := by rw [← hx, ← e2]
      rw [e2] at hf hfr
      have hxp := expAt_bd s (i + a2) hfr.2
      rw [hf] at hxp
      simp only at hxp
      have g1 := head_loc h (a := a0) (b := a1) (by omega) (by omega) e1 (by omega)
      have g2 := frac_loc h (a := a1) (b := a2) (by omega) hfe
      have g3 := exp_loc h (a := a2) (b := n) (Nat.le_refl _) hf
      rw [h.ag a0 (by omega), if_pos hD, g1, g2, if_pos rfl, g3]
  · rw [if_neg hD] at hf; simp at hf
theorem hexF_loc {s t : ByteArray} {i k : Nat} : ∀ m, Agr s t i k m → hexF t k m = hexF s i m
  | 0, _ => rfl
  | m + 1, h => by
    rw [hexF, hexF, hexF_loc m (fun j hj => h j (by omega)), h m (by omega)]
theorem Agr.sub {s t : ByteArray} {i k n : Nat} (h : Agr s t i k n) (a : Nat) {m : Nat} (hm : a + m ≤ n) : Agr s t (i + a) (k + a) m := fun j hj => by
  have := h (a + j) (by omega)
  rw [Nat.add_assoc, Nat.add_assoc]; exact this
theorem hexAt_loc {s t : ByteArray} {i k : Nat} (h : Agr s t i k 6) : hexAt t k = hexAt s i := by
  unfold hexAt
  have e0 : bAt t k = bAt s i := h 0 (by omega)
  rw [e0, h 1 (by omega), hexF_loc 4 (h.sub 2 (by omega))]
theorem esc_loc {s t : ByteArray} {i k x z : Nat} (hE : escAt s i = (0, x, z)) (h92 : bAt s i = 92) (h : Agr s t i k z) : escAt t k = (0, x, z) := by
  have hok := escAt_ok h92 (by rw [hE])
  rw [hE] at hok
  simp only at hok
  have e1 : bAt t (k + 1) = bAt s (i + 1) := h 1 (by omega)
  unfold escAt at hE ⊢
  simp only at hE ⊢
  rw [e1]
  by_cases a1 : bAt s (i + 1) = 34 ∨ bAt s (i + 1) = 92 ∨ bAt s (i + 1) = 47
  · rw [if_pos a1] at hE ⊢; exact hE
  rw [if_neg a1] at hE ⊢
  by_cases a2 : bAt s (i + 1) = 98
  · rw [if_pos a2] at hE ⊢; exact hE
  rw [if_neg a2] at hE ⊢
  by_cases a3 : bAt s (i + 1) = 102
  · rw [if_pos a3] at hE ⊢; exact hE
  rw [if_neg a3] at hE ⊢
  by_cases a4 : bAt s (i + 1) = 110
  · rw [if_pos a4] at hE ⊢; exact hE
  rw [if_neg a4] at hE ⊢
  by_cases a5 : bAt s (i + 1) = 114
  · rw [if_pos a5] at hE ⊢; exact hE
  rw [if_neg a5] at hE ⊢
  by_cases a6 : bAt s (i + 1) = 116
  · rw [if_pos a6] at hE ⊢; exact hE
  rw [if_neg a6] at hE ⊢
  by_cases a7 : 65536 ≤ hexAt s i
  · rw [if_pos a7] at hE; simp at hE
  rw [if_neg a7] at hE
  have hz : 6 ≤ z := by
    split at hE
    · simp only [Prod.mk.injEq] at hE; omega
    · split at hE
      · simp only [Prod.mk.injEq] at hE; omega
      · simp at hE
  rw [hexAt_loc (fun j hj => h j (by omega)), if_neg a7]
  by_cases a8 : scalarN (hexAt s i) = true
  · rw [if_pos a8] at hE ⊢; exact hE
  rw [if_neg a8] at hE ⊢
  by_cases a9 : hexAt s i < 56320 ∧ 56320 ≤ hexAt s (i + 6) ∧ hexAt s (i + 6) ≤ 57343
  · rw [if_pos a9] at hE
    have hz2 : z = 12 := by simp only [Prod.mk.injEq] at hE; omega
    subst hz2
    rw [hexAt_loc (h.sub 6 (by omega)), if_pos a9]; exact hE
  · rw [if_neg a9] at hE; simp at hE
theorem q_loc {s t : ByteArray} {i k n : Nat} (h : Agr s t i k n) : ∀ m a acc b x, n - a ≤ m → a ≤ n → b ≤ n → qAt s (i + a) acc = (0, i + b, x) → qAt t (k + a) acc = (0, k + b, x) := by
  intro m
  induction m with
  | zero =>
    intro a acc b x h1 h2 h3 hq
    have hlt : i + a < s.size := by
      rw [qAt_eq] at hq
      by_cases hx : i + a < s.size
      · exact hx
      · rw [if_neg hx] at hq; simp at hq
    have := (qAt_bd s _ (i + a) acc (Nat.le_refl _) (by omega)).2.2.2 (by rw [hq])
    rw [hq] at this
    simp only at this
    omega
  | succ m ih =>
    intro a acc b x h1 h2 h3 hq
    have hlt : i + a < s.size := by
      rw [qAt_eq] at hq
      by_cases hx : i + a < s.size
      · exact hx
      · rw [if_neg hx] at hq; simp at hq
    have hbd := (qAt_bd s _ (i + a) acc (Nat.le_refl _) (by omega)).2.2.2 (by rw [hq])
    rw [hq] at hbd
    simp only at hbd
    have e0 := h a (by omega)
    rw [qAt_eq, if_pos hlt] at hq
    have hne : bAt s (i + a) ≠ 0 := by
      intro h0
      rw [h0] at hq
      simp at hq
    have hlt' : k + a < t.size := lt_of_bAt (by rw [e0]; exact hne)
    rw [qAt_eq, if_pos hlt', e0]
    by_cases h34 : bAt s (i + a) = 34
    · rw [if_pos h34] at hq ⊢
      simp only [Prod.mk.injEq, true_and] at hq
      obtain ⟨hq1, rfl⟩ := hq
      congr 2; omega
    rw [if_neg h34] at hq ⊢
    by_cases h32 : bAt s (i + a) < 32
    · rw [if_pos h32] at hq; simp at hq
    rw [if_neg h32] at hq ⊢
    by_cases h92 : bAt s (i + a) = 92
    · rw [if_pos h92] at hq ⊢
      cases hE : escAt s (i + a) with
      | mk e xz =>
        obtain ⟨r, z⟩ := xz
        rw [hE] at hq
        by_cases he : e = 0
        · subst he
          rw [if_pos rfl] at hq
          simp only at hq
          have hok := escAt_ok h92 (by rw [hE])
          rw [hE] at hok
          simp only at hok
          have hb2 := (qAt_bd s _ (i + a + z) (acc ++ (encN r).map UInt8.ofNat) (Nat.le_refl _) (by omega)).2.2.2 (by rw [hq])
          rw [hq] at hb2
          simp only at hb2
          rw [esc_loc hE h92 (h.sub a (by omega)), if_pos rfl]
          simp only
          rw [show k + a + z = k + (a + z) by omega]
          exact ih (a + z) _ b x (by omega) (by omega) h3 (by rw [show i + (a + z) = i + a + z by omega]; exact hq)
        · rw [if_neg he] at hq
          simp only [Prod.mk.injEq] at hq
          exact absurd hq.1 he
    · rw [if_neg h92] at hq ⊢
      have hb2 := (qAt_bd s _ (i + a + 1) (acc ++ [UInt8.ofNat (bAt s (i + a))]) (Nat.le_refl _) (by omega)).2.2.2 (by rw [hq])
      rw [hq] at hb2
      simp only at hb2
      rw [show k + a + 1 = k + (a + 1) by omega]
      exact ih (a + 1) _ b x (by omega) (by omega) h3 (by rw [show i + (a + 1) = i + a + 1 by omega]; exact hq)
/-- A token at another place, in another text. -/
theorem one_loc {s t : ByteArray} {i k n : Nat} {T : Tk} (hi : i < s.size) (hO : oneAt s i = (0, 0, T)) (hn : T.to = i + n) (ha : Agr s t i k n) (hx : T.kind = 4 → bAt t (k + n) = bAt s (i + n) ∨ stopB (bAt t (k + n))) :
    oneAt t k = (0, 0, ⟨T.kind, k, k + n, T.text⟩) := by
  unfold oneAt at hO
  simp only at hO
  have z0 : 0 < n → bAt t k = bAt s i := fun h => ha 0 h
  by_cases h1 : signK (bAt s i) ≠ 0
  · rw [if_pos h1] at hO
    simp only [Prod.mk.injEq, true_and] at hO
    subst hO
    simp only at hn ⊢
    obtain rfl : n = 1 := by omega
    unfold oneAt
    simp only
    rw [z0 (by omega), if_pos h1]
  rw [if_neg h1] at hO
  by_cases h2 : bAt s i = 110
  · rw [if_pos h2] at hO
    by_cases hp : bAt s (i + 1) = 117 ∧ bAt s (i + 2) = 108 ∧ bAt s (i + 3) = 108
    · rw [if_pos hp] at hO
      simp only [Prod.mk.injEq, true_and] at hO
      subst hO
      simp only at hn ⊢
      obtain rfl : n = 4 := by omega
      unfold oneAt
      simp only
      rw [z0 (by omega), if_neg h1, if_pos h2, ha 1 (by omega), ha 2 (by omega), ha 3 (by omega), if_pos hp]
    · rw [if_neg hp] at hO; simp at hO
  rw [if_neg h2] at hO
  by_cases h3 : bAt s i = 116
  · rw [if_pos h3] at hO
    by_cases hp : bAt s (i + 1) = 114 ∧ bAt s (i + 2) = 117 ∧ bAt s (i + 3) = 101
    · rw [if_pos hp] at hO
      simp only [Prod.mk.injEq, true_and] at hO
      subst hO
      simp only at hn ⊢
      obtain rfl : n = 4 := by omega
      unfold oneAt
      simp only
      rw [z0 (by omega), if_neg h1, if_neg h2, if_pos h3, ha 1 (by omega), ha 2 (by omega), ha 3 (by omega), if_pos hp]
    · rw [if_neg hp] at hO; simp at hO
  rw [if_neg h3] at hO
  by_cases h4 : bAt s i = 102
  · rw [if_pos h4] at hO
    by_cases hp : bAt s (i + 1) = 97 ∧ bAt s (i + 2) = 108 ∧ bAt s (i + 3) = 115 ∧ bAt s (i + 4) = 101
    · rw [if_pos hp] at hO
      simp only [Prod.mk.injEq, true_and] at hO
      subst hO
      simp only at hn ⊢
      obtain rfl : n = 5 := by omega
      unfold oneAt
      simp only
      rw [z0 (by omega), if_neg h1, if_neg h2, if_neg h3, if_pos h4, ha 1 (by omega), ha 2 (by omega), ha 3 (by omega), ha 4 (by omega), if_pos hp]
    · rw [if_neg hp] at hO; simp at hO
  rw [if_neg h4] at hO
  by_cases h5 : bAt s i = 45 ∨ isD (bAt s i) = true
  · rw [if_pos h5] at hO
    cases hN : numAt s i with
    | mk b e =>
      rw [hN] at hO
      cases b with
      | false => simp at hO
      | true =>
        rw [if_pos rfl] at hO
        simp only [Prod.mk.injEq, true_and] at hO
        subst hO
        simp only at hn ⊢
        subst hn
        have hnn : 0 < n := by
          have := (numAt_bd s i hi).2.2 (by rw [hN])
          rw [hN] at this; simp only at this; omega
        have := num_loc hi ⟨ha, hx rfl⟩ hN
        unfold oneAt
        simp only
        rw [z0 hnn, if_neg h1, if_neg h2, if_neg h3, if_neg h4, if_pos h5, this, if_pos rfl]
  rw [if_neg h5] at hO
  by_cases h6 : bAt s i = 34
  · rw [if_pos h6] at hO
    cases hQ : qAt s (i + 1) [] with
    | mk e r =>
      obtain ⟨p, x⟩ := r
      rw [hQ] at hO
      by_cases he : e = 0
      · subst he
        rw [if_pos rfl] at hO
        simp only [Prod.mk.injEq, true_and] at hO
        subst hO
        simp only at hn ⊢
        subst hn
        have hb := (qAt_bd s _ (i + 1) [] (Nat.le_refl _) (by omega)).2.2.2 (by rw [hQ])
        rw [hQ] at hb
        simp only at hb
        have := q_loc ha n 1 [] n x (by omega) (by omega) (Nat.le_refl _) hQ
        unfold oneAt
        simp only
        rw [z0 (by omega), if_neg h1, if_neg h2, if_neg h3, if_neg h4, if_neg h5, if_pos h6, this, if_pos rfl]
      · rw [if_neg he] at hO
        simp only [Prod.mk.injEq] at hO
        exact absurd hO.1 he
  · rw [if_neg h6] at hO; simp at hO

/-! ### Chains -/
/-- Blanks alone from p to k. -/
def Blk (t : ByteArray) (p k : Nat) : Prop := ∀ j, p ≤ j → j < k → blankN (bAt t j) = true
/-- From p on, t is these tokens with blanks between. -/
def Chain (t : ByteArray) : Nat → List Tk → Prop
  | p, [] => p ≤ t.size ∧ Blk t p t.size
  | p, T :: r => p ≤ T.fr ∧ T.fr < t.size ∧ Blk t p T.fr ∧ oneAt t T.fr = (0, 0, T) ∧ Chain t T.to r
theorem blk_at {t : ByteArray} {k : Nat} : ∀ {n p : Nat}, k - p ≤ n → p ≤ k → k ≤ t.size → Blk t p k → (k < t.size → blankN (bAt t k) = false) → blkAt t p = k
  | 0, p, h1, h2, h3, hb, hk => by
    obtain rfl : p = k := by omega
    rw [blkAt_eq]
    by_cases h : p < t.size
    · rw [hk h]; simp
    · rw [if_neg (fun hx => h hx.1)]
  | n + 1, p, h1, h2, h3, hb, hk => by
    by_cases he : p = k
    · subst he
      rw [blkAt_eq]
      by_cases h : p < t.size
      · rw [hk h]; simp
      · rw [if_neg (fun hx => h hx.1)]
    · rw [blkAt_eq, if_pos ⟨by omega, hb p (Nat.le_refl _) (by omega)⟩]
      exact blk_at (n := n) (by omega) (by omega) h3 (fun j hj hj2 => hb j (by omega) hj2) hk
theorem blk_run (t : ByteArray) : ∀ (n p : Nat), t.size - p ≤ n → Blk t p (blkAt t p)
  | 0, p, h1 => by
    rw [blkAt_eq, if_neg (by omega)]
    intro j h2 h3; omega
  | n + 1, p, h1 => by
    rw [blkAt_eq]
    by_cases h : p < t.size ∧ blankN (bAt t p) = true
    · rw [if_pos h]
      intro j h2 h3
      by_cases hj : j = p
      · rw [hj]; exact h.2
      · exact blk_run t n (p + 1) (by omega) j (by omega) h3
    · rw [if_neg h]
      intro j h2 h3; omega
theorem one_fr {s : ByteArray} {i : Nat} (hi : i < s.size) (hb : brkAt s i = s.size) {T : Tk} (h : oneAt s i = (0, 0, T)) : T.fr = i ∧ i < T.to ∧ T.to ≤ s.size ∧ brkAt s T.to = s.size ∧ T.text.size ≤ T.to - i ∧ 1 ≤ T.kind ∧ T.kind ≤ 11 := by
  have := oneAt_ok s i hi hb (by rw [h])
  rw [h] at this
  exact this
theorem oneAt_form (s : ByteArray) (i : Nat) (h : (oneAt s i).1 = 0) : oneAt s i = (0, 0, (oneAt s i).2.2) := by
  have key : ∀ O : Nat × Nat × Tk, (O.1 = 0 → O.2.1 = 0) → O.1 = 0 → O = (0, 0, O.2.2) := by
    rintro ⟨a, b, c⟩ h1 h2
    simp only at h1 h2
    rw [h2, h1 h2]
  refine key _ ?_ h
  unfold oneAt
  simp only
  repeat' split
  all_goals simp_all
theorem one_notblank {s : ByteArray} {i : Nat} (h : (oneAt s i).1 = 0) : blankN (bAt s i) = false := by
  cases hb : blankN (bAt s i) with
  | false => rfl
  | true =>
    exfalso
    have hc : bAt s i = 32 ∨ bAt s i = 9 ∨ bAt s i = 10 ∨ bAt s i = 13 := by
      simp only [blankN, Bool.or_eq_true, beq_iff_eq] at hb; omega
    unfold oneAt at h
    rcases hc with e | e | e | e <;> (rw [e] at h; simp [signK, isD] at h)
theorem scan_chain {s : ByteArray} : ∀ (ts : List Tk) (p : Nat), p ≤ s.size → brkAt s p = s.size → (scanAt s p = (ts, 0, 0) ↔ Chain s p ts)
  | [], p, hp, hb => by
    have hl := blkAt_low s p hp
    rw [scan_step s p hp hb]
    constructor
    · intro h
      by_cases hlt : blkAt s p < s.size
      · rw [if_pos hlt] at h
        by_cases ho : (oneAt s (blkAt s p)).1 = 0
        · rw [if_pos ho] at h; simp at h
        · rw [if_neg ho] at h
          simp only [Prod.mk.injEq] at h
          exact absurd h.2.1 ho
      · refine ⟨hp, ?_⟩
        have := blk_run s _ p (Nat.le_refl _)
        rw [show blkAt s p = s.size by have := hl.2.1; omega] at this
        exact this
    · rintro ⟨_, h⟩
      have := blk_at (n := s.size - p) (by omega) hp (Nat.le_refl _) h (fun h => by omega)
      rw [this, if_neg (by omega)]
  | T :: ts, p, hp, hb => by
    have hl := blkAt_low s p hp
    rw [scan_step s p hp hb]
    constructor
    · intro h
      by_cases hlt : blkAt s p < s.size
      · rw [if_pos hlt] at h
        by_cases ho : (oneAt s (blkAt s p)).1 = 0
        · rw [if_pos ho] at h
          have hbb := hl.brk hb
          have hform := oneAt_form s _ ho
          have hfr := one_fr hlt hbb hform
          simp only [Prod.mk.injEq, List.cons.injEq] at h
          obtain ⟨⟨rfl, h1⟩, h2⟩ := h
          have h3 : scanAt s (oneAt s (blkAt s p)).2.2.to = (ts, 0, 0) := by
            rw [← h1, show ((0, 0) : Nat × Nat) = (scanAt s (oneAt s (blkAt s p)).2.2.to).2 from h2.symm]
          refine ⟨by rw [hfr.1]; exact hl.1, by rw [hfr.1]; exact hlt, by rw [hfr.1]; exact blk_run s _ p (Nat.le_refl _), by rw [hfr.1]; exact hform, ?_⟩
          exact (scan_chain ts _ hfr.2.2.1 hfr.2.2.2.1).1 h3
        · rw [if_neg ho] at h; simp at h
      · rw [if_neg hlt] at h; simp at h
    · rintro ⟨h1, h2, h3, h4, h5⟩
      have hk := one_notblank (s := s) (i := T.fr) (by rw [h4])
      have hbk := blk_at (n := T.fr - p) (by omega) h1 (by omega) h3 (fun _ => hk)
      have hbb := hl.brk hb
      rw [hbk] at hbb ⊢
      have hfr := one_fr h2 hbb h4
      rw [if_pos h2, h4, if_pos rfl]
      simp only
      rw [(scan_chain ts _ hfr.2.2.1 hfr.2.2.2.1).2 h5]

end Go.Proofs.YtibopkodoidjoaaGreatDoor

/- Plain laws: a text quoted, scanned, is that text; numbers' decimal digits, scanned. No program in sight. -/
namespace Go.Proofs.YtibopkodoidjoaaGreatDoor
open Go Go.RowKit

def hexL : List UInt8 := [48, 49, 50, 51, 52, 53, 54, 55, 56, 57, 97, 98, 99, 100, 101, 102]
/-- How a byte stands within quotes. -/
def escB (b : UInt8) : List UInt8 := if b = 34 ∨ b = 92 then [92, b] else if b.toNat < 32 then [92, 117, 48, 48, hexL.getD (b.toNat / 16) 0, hexL.getD (b.toNat % 16) 0] else [b]
def quoteL (l : List UInt8) : List UInt8 := 34 :: (l.flatMap escB ++ [34])
def quoteS (s : ByteArray) : ByteArray := ⟨(quoteL s.data.toList).toArray⟩
theorem nth_at {A : List UInt8} {l : List UInt8} (k : Nat) : bAt ⟨(A ++ l).toArray⟩ (A.length + k) = nthN l k := by rw [bAt_mk, nth_right]
theorem nth0 (c : UInt8) (l : List UInt8) : nthN (c :: l) 0 = c.toNat := rfl
theorem nthS (c : UInt8) (l : List UInt8) (k : Nat) : nthN (c :: l) (k + 1) = nthN l k := by simp [nthN]
theorem hex_esc : ∀ b : Nat, b < 32 → hexD (hexL.getD (b / 16) 0).toNat = b / 16 ∧ hexD (hexL.getD (b % 16) 0).toNat = b % 16 := by decide +kernel
theorem esc_low6 {A R : List UInt8} {b : UInt8} (hb : b.toNat < 32) : escAt ⟨(A ++ ([92, 117, 48, 48, hexL.getD (b.toNat / 16) 0, hexL.getD (b.toNat % 16) 0] ++ R)).toArray⟩ A.length = (0, b.toNat, 6) := by
  generalize ht : (⟨(A ++ ([92, 117, 48, 48, hexL.getD (b.toNat / 16) 0, hexL.getD (b.toNat % 16) 0] ++ R)).toArray⟩ : ByteArray) = t
  have e0 : bAt t A.length = 92 := by rw [← ht]; exact nth_at (A := A) 0
  have e1 : bAt t (A.length + 1) = 117 := by rw [← ht]; exact nth_at (A := A) 1
  have e2 : bAt t (A.length + 2) = 48 := by rw [← ht]; exact nth_at (A := A) 2
  have e3 : bAt t (A.length + 3) = 48 := by rw [← ht]; exact nth_at (A := A) 3
  have e4 : bAt t (A.length + 4) = (hexL.getD (b.toNat / 16) 0).toNat := by rw [← ht]; exact nth_at (A := A) 4
  have e5 : bAt t (A.length + 5) = (hexL.getD (b.toNat % 16) 0).toNat := by rw [← ht]; exact nth_at (A := A) 5
  obtain ⟨h1, h2⟩ := hex_esc b.toNat hb
  have hh : hexAt t A.length = b.toNat := by
    unfold hexAt
    rw [if_pos ⟨e0, e1⟩]
    have d48 : hexD 48 = 0 := rfl
    rw [hexF, hexF, hexF, hexF, hexF]
    rw [show A.length + 2 + 0 = A.length + 2 by omega, show A.length + 2 + 1 = A.length + 3 by omega, show A.length + 2 + 2 = A.length + 4 by omega, show A.length + 2 + 3 = A.length + 5 by omega]
    rw [e2, e3, e4, e5, h1, h2, d48]
    simp only [Nat.zero_mul, Nat.zero_add]
    rw [if_pos (show 0 < 65536 ∧ 0 < 16 by omega)]
    rw [if_pos (show 0 < 65536 ∧ 0 < 16 by omega)]
    simp only [Nat.zero_mul, Nat.zero_add]
    rw [if_pos (show 0 < 65536 ∧ b.toNat / 16 < 16 by omega), if_pos (show b.toNat / 16 < 65536 ∧ b.toNat % 16 < 16 by omega)]
    omega
  unfold escAt
  simp only
  rw [e1, hh, if_neg (by omega), if_neg (by omega), if_neg (by omega), if_neg (by omega), if_neg (by omega), if_neg (by omega), if_neg (by omega), if_pos (scalarN_iff.2 (by omega))]
theorem u8_back (b : UInt8) : UInt8.ofNat b.toNat = b := by simp
theorem q_quote (Z : List UInt8) : ∀ (l A acc : List UInt8), qAt ⟨(A ++ (l.flatMap escB ++ (34 :: Z))).toArray⟩ A.length acc = (0, A.length + (l.flatMap escB).length + 1, acc ++ l)
  | [], A, acc => by
    have e0 : bAt ⟨(A ++ (([] : List UInt8).flatMap escB ++ (34 :: Z))).toArray⟩ A.length = 34 := nth_at (A := A) 0
    rw [qAt_eq, if_pos (lt_of_bAt (by rw [e0]; decide)), e0, if_pos rfl]
    simp
  | b :: l, A, acc => by
    have ih := fun A acc => q_quote Z l A acc
    rw [List.flatMap_cons, List.append_assoc]
    by_cases h1 : b = 34 ∨ b = 92
    · have eb : escB b = [92, b] := by unfold escB; rw [if_pos h1]
      rw [eb]
      have e0 : bAt ⟨(A ++ ([92, b] ++ (l.flatMap escB ++ (34 :: Z)))).toArray⟩ A.length = 92 := nth_at (A := A) 0
      have e1 : bAt ⟨(A ++ ([92, b] ++ (l.flatMap escB ++ (34 :: Z)))).toArray⟩ (A.length + 1) = b.toNat := nth_at (A := A) 1
      have hesc : escAt ⟨(A ++ ([92, b] ++ (l.flatMap escB ++ (34 :: Z)))).toArray⟩ A.length = (0, b.toNat, 2) := by
        unfold escAt
        simp only
        rw [e1, if_pos (by rcases h1 with rfl | rfl <;> decide)]
      rw [qAt_eq, if_pos (lt_of_bAt (by rw [e0]; decide)), e0, if_neg (by decide), if_neg (by decide), if_pos rfl, hesc, if_pos rfl]
      simp only
      have e2 : (encN b.toNat).map UInt8.ofNat = [b] := by
        unfold encN
        rw [if_pos (by rcases h1 with rfl | rfl <;> decide)]
        simp
      have h2 := ih (A ++ [92, b]) (acc ++ [b])
      rw [List.append_assoc, List.length_append] at h2
      rw [e2]
      simp only [List.length_cons, List.length_nil, Nat.zero_add, Nat.reduceAdd] at h2
      rw [h2]
      simp only [List.length_append, List.length_cons, List.length_nil, Prod.mk.injEq, true_and, List.append_assoc, List.singleton_append, and_true]
      omega
    · have hne : b.toNat ≠ 34 ∧ b.toNat ≠ 92 := ⟨fun e => h1 (Or.inl (UInt8.toNat_inj.1 e)), fun e => h1 (Or.inr (UInt8.toNat_inj.1 e))⟩
      by_cases h2 : b.toNat < 32
      · have eb : escB b = [92, 117, 48, 48, hexL.getD (b.toNat / 16) 0, hexL.getD (b.toNat % 16) 0] := by unfold escB; rw [if_neg h1, if_pos h2]
        have hesc := esc_low6 (A := A) (R := l.flatMap escB ++ (34 :: Z)) h2
        rw [← eb] at hesc
        have e0 : bAt ⟨(A ++ (escB b ++ (l.flatMap escB ++ (34 :: Z)))).toArray⟩ A.length = 92 := by rw [eb]; exact nth_at (A := A) 0
        rw [qAt_eq, if_pos (lt_of_bAt (by rw [e0]; decide)), e0, if_neg (by decide), if_neg (by decide), if_pos rfl, hesc, if_pos rfl]
        simp only
        have e2 : (encN b.toNat).map UInt8.ofNat = [b] := by
          unfold encN
          rw [if_pos (by omega)]
          simp
        have h3 := ih (A ++ escB b) (acc ++ [b])
        have hl : (escB b).length = 6 := by rw [eb]; rfl
        rw [List.append_assoc, List.length_append, hl] at h3
        rw [e2, h3]
        simp only [List.length_append, hl, Prod.mk.injEq, true_and, List.append_assoc, List.singleton_append, and_true]
        omega
      · have eb : escB b = [b] := by unfold escB; rw [if_neg h1, if_neg h2]
        rw [eb]
        have e0 : bAt ⟨(A ++ ([b] ++ (l.flatMap escB ++ (34 :: Z)))).toArray⟩ A.length = b.toNat := nth_at (A := A) 0
        rw [qAt_eq, if_pos (lt_of_bAt (by rw [e0]; omega)), e0, if_neg hne.1, if_neg h2, if_neg hne.2, u8_back]
        have h3 := ih (A ++ [b]) (acc ++ [b])
        rw [List.append_assoc, List.length_append] at h3
        simp only [List.length_cons, List.length_nil, Nat.zero_add] at h3
        rw [h3]
        simp only [List.length_cons, Prod.mk.injEq, true_and, List.append_assoc, List.singleton_append, and_true]
        omega
theorem escB_ascii {b : UInt8} (h : b.toNat < 128) : ∀ c ∈ (escB b).map UInt8.toNat, c < 128 := by
  have key : ∀ n : Nat, n < 128 → ∀ c ∈ (escB (UInt8.ofNat n)).map UInt8.toNat, c < 128 := by decide +kernel
  have := key b.toNat h
  rwa [u8_back] at this
theorem escB_high {b : UInt8} (h : 128 ≤ b.toNat) : escB b = [b] := by
  unfold escB
  rw [if_neg, if_neg (by omega)]
  rintro (rfl | rfl) <;> exact absurd h (by decide)
theorem esc_vl : ∀ (rs : List Nat) (l : List UInt8), (∀ r ∈ rs, scalarN r = true) → l.map UInt8.toNat = rs.flatMap encN → VL ((l.flatMap escB).map UInt8.toNat)
  | [], l, _, h => by
    have : l = [] := by simpa using h
    subst this; exact VL.nil
  | r :: rs, l, hr, h => by
    rw [List.flatMap_cons] at h
    obtain ⟨l1, l2, rfl, h1, h2⟩ := List.map_eq_append_iff.1 h
    rw [List.flatMap_append, List.map_append]
    refine VL.append ?_ (esc_vl rs l2 (fun q hq => hr q (List.mem_cons_of_mem _ hq)) h2)
    by_cases hlt : r < 128
    · have e : encN r = [r] := by unfold encN; rw [if_pos hlt]
      rw [e] at h1
      obtain ⟨b, hb, rfl⟩ : ∃ b, l1 = [b] ∧ b.toNat = r := by
        match l1, h1 with
        | [b], h1 => exact ⟨b, rfl, by simpa using h1⟩
      subst hb
      rw [List.flatMap_singleton]
      exact VL.ascii (escB_ascii hlt)
    · have hge := encN_ge (r := r) (by omega)
      have e : l1.flatMap escB = l1 := by
        have : ∀ b ∈ l1, escB b = [b] := fun b hb => escB_high (hge b.toNat (by rw [← h1]; exact List.mem_map_of_mem hb))
        clear h1 h
        induction l1 with
        | nil => rfl
        | cons b l1 ih => rw [List.flatMap_cons, this b (List.mem_cons_self ..), ih (fun c hc => this c (List.mem_cons_of_mem _ hc))]; rfl
      rw [e, h1]
      exact VL.enc (hr r (List.mem_cons_self ..))
theorem quote_utf {s : ByteArray} (h : utfE s = 0) : utfE (quoteS s) = 0 := by
  obtain ⟨rs, hr, he⟩ := (utfE_iff s).1 h
  rw [bs_list] at he
  unfold quoteS
  rw [utfE_mk]
  unfold quoteL
  rw [List.map_cons, List.map_append]
  exact VL.append (l := [34]) (VL.one (by decide)) (VL.append (esc_vl rs _ hr he) (VL.one (by decide)))
theorem quote_one (s : ByteArray) : oneAt (quoteS s) 0 = (0, 0, ⟨5, 0, (quoteS s).size, s⟩) := by
  have hq := q_quote [] s.data.toList [34] []
  have e0 : bAt (quoteS s) 0 = 34 := by unfold quoteS; rw [bAt_mk]; rfl
  have hsz : (quoteS s).size = 1 + (s.data.toList.flatMap escB).length + 1 := by
    unfold quoteS; rw [size_mk]; unfold quoteL; simp; omega
  have hq2 : qAt (quoteS s) (0 + 1) [] = (0, (quoteS s).size, s.data.toList) := by
    rw [hsz]; exact hq
  unfold oneAt
  simp only
  rw [e0, if_neg (by decide), if_neg (by decide), if_neg (by decide), if_neg (by decide), if_neg (by decide), if_pos rfl, hq2, if_pos rfl]
/-- What is quoted, scanned. -/
theorem quote_scan {s : ByteArray} (h : utfE s = 0) : someS (quoteS s) = ([⟨5, 0, (quoteS s).size, s⟩], 0, 0) := by
  have hu := quote_utf h
  have hb := (utfE_brk _).1 hu
  have hp : 0 < (quoteS s).size := by unfold quoteS; rw [size_mk]; unfold quoteL; simp
  rw [someS_eq, if_pos hu]
  refine (scan_chain _ 0 (Nat.zero_le _) hb).2 ⟨Nat.le_refl _, hp, fun j h1 h2 => ?_, quote_one s, Nat.le_refl _, fun j h1 h2 => ?_⟩
  · simp only at h2; omega
  · simp only at h1; omega
/-- A text's escapes undone are UTF-8. -/
theorem q_valid (s : ByteArray) : ∀ (n i : Nat) (acc x : List UInt8) (p : Nat), s.size - i ≤ n → brkAt s i = s.size → VL (acc.map UInt8.toNat) → qAt s i acc = (0, p, x) → VL (x.map UInt8.toNat)
  | 0, i, acc, x, p, h1, _, _, hq => by
    rw [qAt_eq, if_neg (by omega)] at hq; simp at hq
  | n + 1, i, acc, x, p, h1, hb, ha, hq => by
    rw [qAt_eq] at hq
    by_cases hi : i < s.size
    · rw [if_pos hi] at hq
      by_cases h34 : bAt s i = 34
      · rw [if_pos h34] at hq
        simp only [Prod.mk.injEq, true_and] at hq
        rw [← hq.2]; exact ha
      rw [if_neg h34] at hq
      by_cases h32 : bAt s i < 32
      · rw [if_pos h32] at hq; simp at hq
      rw [if_neg h32] at hq
      by_cases h92 : bAt s i = 92
      · rw [if_pos h92] at hq
        by_cases he : (escAt s i).1 = 0
        · rw [if_pos he] at hq
          have hok := escAt_ok h92 he
          refine q_valid s n _ _ x p (by omega) ((esc_low h92 he).brk hb) ?_ hq
          rw [List.map_append, List.map_map]
          refine VL.append ha ?_
          have : (encN (escAt s i).2.1).map (UInt8.toNat ∘ UInt8.ofNat) = encN (escAt s i).2.1 := by
            have hlt : ∀ c ∈ encN (escAt s i).2.1, c < 256 := by
              have hs := scalarN_iff.1 hok.2.2.2.1
              intro c hc
              unfold encN at hc
              repeat' split at hc
              all_goals (simp at hc; omega)
            conv => rhs; rw [← List.map_id (encN (escAt s i).2.1)]
            apply List.map_congr_left
            intro c hc
            have := hlt c hc
            simp [UInt8.toNat_ofNat']; omega
          rw [this]
          exact VL.enc hok.2.2.2.1
        · rw [if_neg he] at hq
          simp only [Prod.mk.injEq] at hq
          exact absurd hq.1 he
      · rw [if_neg h92] at hq
        by_cases hlow : bAt s i < 128
        · refine q_valid s n _ _ x p (by omega) (brk_ascii hb hi hlow) ?_ hq
          rw [List.map_append]
          refine VL.append ha ?_
          simp only [List.map_cons, List.map_nil]
          rw [UInt8.toNat_ofNat', Nat.mod_eq_of_lt (bAt_lt _ _)]
          exact VL.one hlow
        · obtain ⟨h0, hb2⟩ := brk_next hi hb
          obtain ⟨hs, he, hw, hle, hc⟩ := rune_cases hi h0
          rcases hc with hc | hc
          · omega
          · have hq2 := qAt_high acc hle hc.2.2
            have hq3 : qAt s i acc = (0, p, x) := by
              rw [qAt_eq, if_pos hi, if_neg h34, if_neg h32, if_neg h92]; exact hq
            rw [hq2] at hq3
            refine q_valid s n _ _ x p (by omega) hb2 ?_ hq3
            rw [List.map_append, ← he, List.map_map]
            refine VL.append ha ?_
            have : (encN (refAt s i).1).map (UInt8.toNat ∘ UInt8.ofNat) = encN (refAt s i).1 := by
              conv => rhs; rw [← List.map_id (encN (refAt s i).1)]
              apply List.map_congr_left
              intro c hcm
              have : c < 256 := by
                rw [he] at hcm
                obtain ⟨j, _, rfl⟩ := List.mem_map.1 hcm
                exact bAt_lt _ _
              simp [UInt8.toNat_ofNat']; omega
            rw [this]
            exact VL.enc hs
    · rw [if_neg hi] at hq; simp at hq
theorem one_text {s : ByteArray} {i : Nat} (hi : i < s.size) (hb : brkAt s i = s.size) {T : Tk} (h : oneAt s i = (0, 0, T)) : utfE T.text = 0 := by
  have hno : utfE noS = 0 := by
    have := (utfE_mk []).2 VL.nil
    exact this
  unfold oneAt at h
  simp only at h
  by_cases h1 : signK (bAt s i) ≠ 0
  · rw [if_pos h1] at h; simp only [Prod.mk.injEq, true_and] at h; rw [← h]; exact hno
  rw [if_neg h1] at h
  by_cases h2 : bAt s i = 110
  · rw [if_pos h2] at h
    split at h
    · simp only [Prod.mk.injEq, true_and] at h; rw [← h]; exact hno
    · simp at h
  rw [if_neg h2] at h
  by_cases h3 : bAt s i = 116
  · rw [if_pos h3] at h
    split at h
    · simp only [Prod.mk.injEq, true_and] at h; rw [← h]; exact hno
    · simp at h
  rw [if_neg h3] at h
  by_cases h4 : bAt s i = 102
  · rw [if_pos h4] at h
    split at h
    · simp only [Prod.mk.injEq, true_and] at h; rw [← h]; exact hno
    · simp at h
  rw [if_neg h4] at h
  by_cases h5 : bAt s i = 45 ∨ isD (bAt s i) = true
  · rw [if_pos h5] at h
    split at h
    · simp only [Prod.mk.injEq, true_and] at h; rw [← h]; exact hno
    · simp at h
  rw [if_neg h5] at h
  by_cases h6 : bAt s i = 34
  · rw [if_pos h6] at h
    cases hQ : qAt s (i + 1) [] with
    | mk e r =>
      obtain ⟨p, x⟩ := r
      rw [hQ] at h
      by_cases he : e = 0
      · subst he
        rw [if_pos rfl] at h
        simp only [Prod.mk.injEq, true_and] at h
        rw [← h]
        show utfE ⟨x.toArray⟩ = 0
        rw [utfE_mk]
        exact q_valid s _ (i + 1) [] x p (Nat.le_refl _) (brk_ascii hb hi (by omega)) VL.nil hQ
      · rw [if_neg he] at h
        simp only [Prod.mk.injEq] at h
        exact absurd h.1 he
  · rw [if_neg h6] at h; simp at h

end Go.Proofs.YtibopkodoidjoaaGreatDoor

/- Plain laws: a text that is one token; what a scan's list holds. No program in sight. -/
namespace Go.Proofs.YtibopkodoidjoaaGreatDoor
open Go Go.RowKit

/-- A text that is just one token of a kind. -/
def single (s : ByteArray) (k : Nat) (ts : List Tk) : Bool := match ts with | [T] => T.kind == k && (T.fr == 0 && T.to == s.size) | _ => false
def hasE (s : ByteArray) : Bool := s.data.toList.any fun c => c == 46 || c == 101 || c == 69
/-- The text that JSON tells; its place and the error's number (place none: no place). -/
def unqS (s : ByteArray) : ByteArray × Option Nat × Nat :=
  if (someS s).2.1 = 0 then (if single s 5 (someS s).1 = true then ((((someS s).1.head?).map (·.text)).getD noS, some 0, 0) else (noS, none, 5)) else (noS, some (someS s).2.2, (someS s).2.1)
/-- The tokens of a text, in their places. -/
theorem some_chain {s : ByteArray} (h : (someS s).2.1 = 0) : utfE s = 0 ∧ Chain s 0 (someS s).1 ∧ someS s = ((someS s).1, 0, 0) := by
  by_cases hu : utfE s = 0
  · have hb := (utfE_brk _).1 hu
    have e := someS_eq s
    rw [if_pos hu] at e
    have h2 : someS s = ((someS s).1, 0, 0) := by
      have key : ∀ n i, s.size - i ≤ n → i ≤ s.size → brkAt s i = s.size → (scanAt s i).2.1 = 0 → (scanAt s i).2.2 = 0 := by
        intro n
        induction n with
        | zero =>
          intro i h1 h2 h3 h4
          rw [scanAt_eq s i h3, if_neg (by omega)]
        | succ n ih =>
          intro i h1 h2 h3 h4
          rw [scanAt_eq s i h3] at h4 ⊢
          by_cases hi : i < s.size
          · rw [if_pos hi] at h4 ⊢
            by_cases hbl : blankN (bAt s i) = true
            · rw [if_pos hbl] at h4 ⊢
              exact ih _ (by omega) (by omega) (brk_ascii h3 hi (blank_ascii hbl).2) h4
            rw [if_neg hbl] at h4 ⊢
            by_cases ho : (oneAt s i).1 = 0
            · rw [if_pos ho] at h4 ⊢
              have h5 := oneAt_ok s i hi h3 ho
              exact ih _ (by omega) h5.2.2.1 h5.2.2.2.1 h4
            · rw [if_neg ho] at h4
              exact absurd h4 ho
          · rw [if_neg hi]
      have h3 := key _ 0 (Nat.le_refl _) (Nat.zero_le _) hb (by rw [← e]; exact h)
      rw [← e] at h3
      have : ∀ R : List Tk × Nat × Nat, R.2.1 = 0 → R.2.2 = 0 → R = (R.1, 0, 0) := by
        rintro ⟨a, b, c⟩ h1 h2
        simp only at h1 h2
        rw [h1, h2]
      exact this _ h h3
    refine ⟨hu, (scan_chain _ 0 (Nat.zero_le _) hb).1 ?_, h2⟩
    rw [← e]; exact h2
  · rw [someS_eq, if_neg hu] at h; simp at h
/-- Tokens rise. -/
theorem chain_bd {s : ByteArray} : ∀ (ts : List Tk) (p : Nat), brkAt s p = s.size → p ≤ s.size → Chain s p ts → ∀ T ∈ ts, p ≤ T.fr ∧ T.fr < T.to ∧ T.to ≤ s.size ∧ brkAt s T.fr = s.size ∧ brkAt s T.to = s.size ∧ oneAt s T.fr = (0, 0, T)
  | [], _, _, _, _, T, hT => by cases hT
  | T' :: ts, p, hb, hp, ⟨h1, h2, h3, h4, h5⟩, T, hT => by
    have hbb : brkAt s T'.fr = s.size := by
      refine Low.brk (i := p) ⟨h1, by omega, fun k hk1 hk2 => (blank_ascii (h3 k hk1 hk2)).2⟩ hb
    have hfr := one_fr h2 hbb h4
    rcases List.mem_cons.1 hT with rfl | hT
    · exact ⟨h1, hfr.2.1, hfr.2.2.1, hbb, hfr.2.2.2.1, h4⟩
    · have := chain_bd ts T'.to hfr.2.2.2.1 hfr.2.2.1 h5 T hT
      exact ⟨by omega, this.2⟩
theorem chain_len {s : ByteArray} : ∀ (ts : List Tk) (p : Nat), brkAt s p = s.size → p ≤ s.size → Chain s p ts → ts.length ≤ s.size - p
  | [], _, _, _, _ => Nat.zero_le _
  | T :: r, p, hb, hp, ⟨h1, h2, h3, h4, h5⟩ => by
    have hbb : brkAt s T.fr = s.size := Low.brk (i := p) ⟨h1, by omega, fun k hk1 hk2 => (blank_ascii (h3 k hk1 hk2)).2⟩ hb
    have hfr := one_fr h2 hbb h4
    have := chain_len r T.to hfr.2.2.2.1 hfr.2.2.1 h5
    rw [List.length_cons]
    omega

end Go.Proofs.YtibopkodoidjoaaGreatDoor

/- The reference of chapter 17: Some, Scan. -/
namespace Go.Proofs.YtibopkodoidjoaaGreatDoor
open Go Go.RowKit

/-- v is a list of tokens of the call's own. -/
def OwnT (w : World) (base : Nat) (v : Value) (ts : List Tk) : Prop := w.ownsRow base 59 4 v ts.length (ts.flatMap tkC)
theorem OwnT.nil (w : World) (base : Nat) : OwnT w base (.slice none 0 0) [] := World.ownsRow_nil _ _ _ _
theorem OwnT.next {w w' : World} {base : Nat} {v : Value} {ts : List Tk} (h : OwnT w base v ts) (hb : Below w.heap.size w w') : OwnT w' base v ts := own_next h hb
theorem OwnT.lt {w : World} {base : Nat} {v : Value} {ts : List Tk} (h : OwnT w base v ts) : ∀ k, v.ownBlock = some k → base ≤ k := fun k hk => (World.ownsRow.lt h k hk).1
theorem OwnT.lt_size {w : World} {base : Nat} {v : Value} {ts : List Tk} (h : OwnT w base v ts) : ∀ k, v.ownBlock = some k → k < w.heap.size := fun k hk => (World.ownsRow.lt h k hk).2
theorem below_ownT {w w1 w2 : World} {base : Nat} {v : Value} {ts : List Tk} (h1 : Below base w w1) (ho : OwnT w1 base v ts) (hg : w1.grownBy w2 v.ownBlock) (hb : base ≤ w1.heap.size) : Below base w w2 := h1.grown hg hb (fun k hk => ho.lt k hk)
theorem heap_new1 (w : World) (o o' : Obj) : ((w.alloc o).alloc o').heap[w.heap.size + 1]? = some o' := by
  have := heap_alloc_new (w.alloc o) o'
  rw [World.size_alloc] at this
  exact this
section
variable {ops : Array Oper} {rest : List Oper} {o : Oper} {a : Act} {Q : Exit → Act → World → Prop} {w : World}
/-- append(out, t) of a token. -/
theorem app_tk (hgd : o.guard = none) (sl x : Operand) (ho : o.op = .call { callee := .builtin .append, args := #[sl, x], argTypes := #[49, 49] }) (base : Nat) (v : Value) (ts : List Tk) (hs : a.eval sl = v) (hown : OwnT w base v ts)
    (g c : Nat) (cs : Array Value) (t : TypeId) (fr : Nat × Nat) (T : Tk) (hx : a.eval x = .slice (some ⟨g, 0, none⟩) 1 c) (hg : w.heap[g]? = some (.cells cs t fr)) (hcs : cs = (tkC T).toArray)
    (hlen : ts.length + 1 ≤ 3518437208883) (hbase : base ≤ w.heap.size)
    (h : ∀ v' w', OwnT w' base v' (ts ++ [T]) → w.grownBy w' v.ownBlock → wpList Tryz.prog ops Q rest (a.put o.dst v') w') : wpList Tryz.prog ops Q (o :: rest) a w := by
  obtain ⟨i0, hi, hi2⟩ := Option.map_eq_some_iff.1 infoTk
  simp only [Prod.mk.injEq] at hi2
  refine wpList_append_own _ hgd sl x 49 ho base 59 i0 (.agg #[.int .i64 0, .int .i64 0, .int .i64 0, .string ⟨#[]⟩]) 4 40 Tryz.underlying49 hi hi2.1 hi2.2.1 hi2.2.2 rfl (by decide) v ts.length (ts.flatMap tkC) hs hown ⟨g, 0, none⟩ 1 c (tkC T) hx rfl ?_ ?_ (by unfold maxLen; omega) (by omega) hbase ?_
  · intro j u hj
    have : (⟨g, 0, none⟩ : Addr).add j = ⟨g, j, none⟩ := by simp only [Addr.add, Nat.zero_add]; split <;> simp_all
    rw [this]
    refine cellB hg j ?_
    rw [hcs, List.getElem?_toArray]
    exact hj
  · intro u hu
    unfold tkC at hu
    simp at hu
    rcases hu with rfl | rfl | rfl | rfl <;> rfl
  · intro v' w' h1 h2 _
    refine h v' w' ?_ h2
    unfold OwnT
    rw [List.length_append, List.length_singleton, List.flatMap_append]
    simpa using h1
end
theorem rOne_calls2 (s : ByteArray) (i : Nat) (w : World) (hs : s.size ≤ 35184372088830) (hi : i < s.size) (R : Value) (hR : rOneV (oneAt s i) = R) :
    Calls Tryz.prog 50 #[.string s, .int .i64 (i : Int)] w fun e w' => e = .returned R ∧ Below w.heap.size w w' := by rw [← hR]; exact rOne_calls s i w hs hi
theorem rBlank_calls2 (c : Nat) (b : Bool) (w : World) (h : blankN c = b) : Calls Tryz.prog 49 #[.int .u8 (c : Int)] w fun e w' => e = .returned (.bool b) ∧ w = w' := by rw [← h]; exact (rBlank_calls c w).mono fun _ _ ⟨h, hw⟩ => ⟨h, hw.symm⟩
/-- What Some answers. -/
def rSomeR (base : Nat) (R : List Tk × Nat × Nat) (e : Ending) (w' : World) : Prop := ∃ v, e = .returned (.tuple #[v, .int .i64 (R.2.2 : Int), .int .i64 (R.2.1 : Int)]) ∧ OwnT w' base v R.1
theorem rSomeR_mk {base : Nat} {R : List Tk × Nat × Nat} {w' : World} {v : Value} {ts : List Tk} {e0 p : Nat} (h : R = (ts, e0, p)) (ho : OwnT w' base v ts) : rSomeR base R (.returned (.tuple #[v, .int .i64 (p : Int), .int .i64 (e0 : Int)])) w' := by
  subst h; exact ⟨v, rfl, ho⟩
set_option maxHeartbeats 4000000 in
set_option maxRecDepth 100000 in
theorem rSome_calls (s : ByteArray) (w : World) (hs : s.size ≤ 3518437208882) :
    Calls Tryz.prog 21 #[.string s] w fun e w' => rSomeR w.heap.size (someS s) e w' ∧ Below w.heap.size w w' := by
  have hs' : (s.size : Int) ≤ 3518437208882 := by omega
  have U := Lib.hid (fun w => Utf8_calls s w (by omega))
  have K := Lib.hid (fun w => Breaks_calls s w (by omega))
  obtain ⟨R, hR⟩ : ∃ R, R = someS s := ⟨_, rfl⟩
  rw [← hR]
  replace hR := Lib.hid hR
  replace hs := Lib.hid hs
  by_cases hu : utfE s = 0
  · have hv0 := (utfE_brk s).1 hu
    have hR0 : Hid (R = scanAt s 0) := Lib.hid (by rw [hR.out, someS_eq, if_pos hu])
    replace U : Hid (∀ w, Calls Tryz.prog 47 #[.string s] w fun e w' => e = .returned (.bool true) ∧ Below w.heap.size w w') := Lib.hid (fun w => by have := U.out w; rwa [decide_eq_true hu] at this)
    replace hu := Lib.hid hu
    replace hv0 := Lib.hid hv0
    clear K
    go_enter Tryz.func21, Tryz.ntmps21
    (go_wp2_with fail; repeat (any_goals (go_quiet (fail); go_wp2_with fail)))
    refine (U.out _).mono ?_
    rintro e w1 ⟨rfl, hb⟩
    have hb1 : Below w.heap.size w w1 := bcall (by repeat (first | assumption | exact Below.refl _ _ | apply Below.drew | apply below_drewN | apply balloc | (refine Below.setCell ?_ (by first | omega | (simp <;> omega)) _))) hb
    clear hb U
    (go_wp2_with fail; repeat (any_goals (go_quiet (fail); go_wp2_with fail)))
    go_loopg [5, 6] (s.size + 1) (fun kq v5 v6 wr => ∃ (k : Nat) (ts : List Tk), v6 = .int .i64 (k : Int) ∧ Hid (k ≤ s.size ∧ brkAt s k = s.size ∧ ts.length ≤ k ∧ (ts ++ (scanAt s k).1, (scanAt s k).2) = R ∧ kq + k ≥ s.size + 1 ∧ OwnT wr w.heap.size v5 ts) ∧ Below w.heap.size w wr)
    case atStart => exact ⟨0, [], rfl, Lib.hid ⟨Nat.zero_le _, hv0.out, Nat.zero_le _, hR0.out.symm, by omega, OwnT.nil _ _⟩, hb1⟩
    case round =>
      clear hb1
      obtain ⟨k, ts, rfl, H, hB⟩ := hrel
      have hx := byte_at s k
      have hq := Lib.hid (scanAt_eq s k H.out.2.1)
      have hk := H.out.1
      by_cases hlt : k < s.size
      · have hlt' : (k : Int) < (s.size : Int) := by omega
        cases hbl : blankN (bAt s k) with
        | true =>
          have C := Lib.hid (fun w => rBlank_calls2 (bAt s k) true w hbl)
          have hst : Hid ((ts ++ (scanAt s (k + 1)).1, (scanAt s (k + 1)).2) = R ∧ brkAt s (k + 1) = s.size) := Lib.hid (by
            have h1 := hq.out
            rw [if_pos hlt, if_pos hbl] at h1
            exact ⟨by rw [← h1]; exact H.out.2.2.2.1, brk_ascii H.out.2.1 hlt (blank_ascii hbl).2⟩)
          replace hbl := Lib.hid hbl
          replace hlt := Lib.hid hlt
          clear hq
          (go_wp2_with fail; repeat (any_goals (go_quiet (fail); go_wp2_with fail)))
          refine (C.out _).mono ?_
          rintro e w2 ⟨rfl, rfl⟩
          (go_wp2_with fail; repeat (any_goals (go_quiet (fail); go_wp2_with fail)))
          go_roundg (s.size + 1 - (k + 1))
          case measure => have := H.out.2.2.2.2.1; omega
          case rel =>
            have h3 := H.out.2.2.1
            have h4 := H.out.2.2.2.2.1
            refine ⟨k + 1, ts, by go_num, Lib.hid ⟨hlt.out, hst.out.2, by omega, hst.out.1, by omega, H.out.2.2.2.2.2⟩, by assumption⟩
        | false =>
          have C := Lib.hid (fun w => rBlank_calls2 (bAt s k) false w hbl)
          have h1 := hq.out
          rw [if_pos hlt, if_neg (by rw [hbl]; simp)] at h1
          obtain ⟨O, hO⟩ : ∃ O, oneAt s k = O := ⟨_, rfl⟩
          rw [hO] at h1
          have hfr : ∀ T, O = (0, 0, T) → T.fr = k ∧ k < T.to ∧ T.to ≤ s.size ∧ brkAt s T.to = s.size ∧ T.text.size ≤ T.to - k ∧ 1 ≤ T.kind ∧ T.kind ≤ 11 := fun T h => one_fr hlt H.out.2.1 (by rw [hO, h])
          have hform : O.1 = 0 → O = (0, 0, O.2.2) := fun h => by rw [← hO] at h ⊢; exact oneAt_form s k h
          replace hbl := Lib.hid hbl
          clear hq
          obtain ⟨e0, p, T⟩ := O
          cases e0 with
          | zero =>
            obtain rfl : p = 0 := by have := hform rfl; simp only [Prod.mk.injEq] at this; exact this.2.1
            have hT := hfr T rfl
            have D := Lib.hid (fun w => rOne_calls2 s k w (by have := hs.out; omega) hlt _ (rOneV_ok hO))
            rw [if_pos rfl] at h1
            simp only at h1
            have hst : Hid ((ts ++ [T] ++ (scanAt s T.to).1, (scanAt s T.to).2) = R) := Lib.hid (by
              have h2 := H.out.2.2.2.1
              rw [h1] at h2
              rw [← h2, List.append_assoc]; rfl)
            replace h1 := Lib.hid h1
            replace hO := Lib.hid hO
            replace hT := Lib.hid hT
            replace hlt := Lib.hid hlt
            clear hfr hform
            unfold tkV at D
            have hz := hB.size
            (go_wp2_with fail; repeat (any_goals (go_quiet (fail); go_wp2_with fail)))
            refine (C.out _).mono ?_
            rintro e w2 ⟨rfl, rfl⟩
            (go_wp2_with fail; repeat (any_goals (go_quiet (fail); go_wp2_with fail)))
            refine (D.out _).mono ?_
            rintro e w2 ⟨rfl, hb⟩
            have hb2 : Below w.heap.size w w2 := hB.trans (hb.mono hz)
            have ho2 := Lib.hid (H.out.2.2.2.2.2.next hb)
            have hz2 := hb2.size
            clear hb
            go_wp2_with (at_builtin; refine app_tk rfl _ _ rfl w.heap.size _ ts rfl (show OwnT _ _ _ _ from World.ownsRow.alloc (World.ownsRow.alloc ho2.out _) _) _ 1 _ _ _ T rfl (heap_new1 _ _ _) rfl (by have := H.out.1; have := H.out.2.2.1; have := hs.out; omega) (by simp; omega) ?_)
            intro v' w3 ho3 hg
            have hb3 := below_ownT ((hb2.alloc hz2 _).alloc (by simp; omega) _) (show OwnT _ _ _ _ from World.ownsRow.alloc (World.ownsRow.alloc ho2.out _) _) hg (by simp; omega)
            have y2 : w3.cell? ⟨w2.heap.size, 2, none⟩ = some (.int .i64 (T.to : Int)) := by
              refine hg.cell ?_ ?_
              · refine cellB (box_next (heap_alloc_new w2 _) ((Below.refl _ _).alloc (Nat.le_refl _) _)) 2 rfl
              · intro h
                have := (ho2.out.lt_size _ h.symm)
                simp at this
            replace ho3 := Lib.hid ho3
            clear hg
            (go_wp2_with fail; repeat (any_goals (go_quiet (fail); go_wp2_with fail)))
            go_roundg (s.size + 1 - T.to)
            case measure => have := H.out.2.2.2.2.1; have := hT.out.2.1; omega
            case rel =>
              have h3 := H.out.2.2.1
              have h4 := H.out.2.2.2.2.1
              have h5 := hT.out
              refine ⟨T.to, ts ++ [T], rfl, Lib.hid ⟨h5.2.2.1, h5.2.2.2.1, by rw [List.length_append, List.length_singleton]; omega, hst.out, by omega, ho3.out⟩, by assumption⟩
          | succ e0 =>
            have D := Lib.hid (fun w => rOne_calls2 s k w (by have := hs.out; omega) hlt _ (rOneV_bad hO))
            rw [if_neg (by simp)] at h1
            simp only at h1
            have hR2 : R = (ts, e0 + 1, p) := by
              have h2 := H.out.2.2.2.1
              rw [h1] at h2
              rw [← h2, List.append_nil]
            replace hR2 := Lib.hid hR2
            have hne2 : (((e0 + 1 : Nat) : Int) != 0) = true := by simp; omega
            replace h1 := Lib.hid h1
            replace hO := Lib.hid hO
            replace hlt := Lib.hid hlt
            clear hfr hform
            have hz := hB.size
            obtain ⟨e1, he1⟩ : ∃ e1, e1 = ((e0 + 1 : Nat) : Int) := ⟨_, rfl⟩
            rw [← he1] at D hne2
            replace he1 := Lib.hid he1
            (go_wp2_with fail; repeat (any_goals (go_quiet (fail); go_wp2_with fail)))
            refine (C.out _).mono ?_
            rintro e w2 ⟨rfl, rfl⟩
            (go_wp2_with fail; repeat (any_goals (go_quiet (fail); go_wp2_with fail)))
            refine (D.out _).mono ?_
            rintro e w2 ⟨rfl, hb⟩
            have hb2 : Below w.heap.size w w2 := hB.trans (hb.mono hz)
            have ho2 := Lib.hid (H.out.2.2.2.2.2.next hb)
            have hz2 := hb2.size
            clear hb
            (go_wp2_with fail; repeat (any_goals (go_quiet (fail); go_wp2_with fail)))
            go_ret3
            refine ⟨?_, hb2.alloc hz2 _⟩
            rw [he1.out]
            exact rSomeR_mk hR2.out (World.ownsRow.alloc ho2.out _)
      · have hlt' : ¬ (k : Int) < (s.size : Int) := by omega
        have h1 := hq.out
        rw [if_neg hlt] at h1
        have hR2 : R = (ts, 0, 0) := by
          have h2 := H.out.2.2.2.1
          rw [h1] at h2
          rw [← h2, List.append_nil]
        replace hR2 := Lib.hid hR2
        replace h1 := Lib.hid h1
        replace hlt := Lib.hid hlt
        clear hq
        (go_wp2_with fail; repeat (any_goals (go_quiet (fail); go_wp2_with fail)))
        go_ret3
        exact ⟨rSomeR_mk hR2.out H.out.2.2.2.2.2, (by repeat (first | assumption | exact Below.refl _ _ | apply Below.drew | apply below_drewN | apply balloc | (refine Below.setCell ?_ (by first | omega | (simp <;> omega)) _)))⟩
  · have hR2 : R = ([], 1, brkAt s 0) := by rw [hR.out, someS_eq, if_neg hu]
    replace U : Hid (∀ w, Calls Tryz.prog 47 #[.string s] w fun e w' => e = .returned (.bool false) ∧ Below w.heap.size w w') := Lib.hid (fun w => by have := U.out w; rwa [decide_eq_false hu] at this)
    replace hu := Lib.hid hu
    replace hR2 := Lib.hid hR2
    generalize brkAt s 0 = p at *
    go_enter Tryz.func21, Tryz.ntmps21
    (go_wp2_with fail; repeat (any_goals (go_quiet (fail); go_wp2_with fail)))
    refine (U.out _).mono ?_
    rintro e w1 ⟨rfl, hb⟩
    have hb1 : Below w.heap.size w w1 := bcall (by repeat (first | assumption | exact Below.refl _ _ | apply Below.drew | apply below_drewN | apply balloc | (refine Below.setCell ?_ (by first | omega | (simp <;> omega)) _))) hb
    clear hb
    (go_wp2_with fail; repeat (any_goals (go_quiet (fail); go_wp2_with fail)))
    refine (K.out _).mono ?_
    rintro e w2 ⟨rfl, hb⟩
    have hb2 : Below w.heap.size w w2 := bcall hb1 hb
    clear hb
    (go_wp2_with fail; repeat (any_goals (go_quiet (fail); go_wp2_with fail)))
    go_ret3
    refine ⟨⟨.slice none 0 0, ?_, ?_⟩, hb2⟩
    · rw [hR2.out]; rfl
    · rw [hR2.out]; exact OwnT.nil _ _
/-- What Scan answers. -/
def rScanR (base : Nat) (R : List Tk × Nat × Nat) (e : Ending) (w' : World) : Prop :=
  ∃ v, e = .returned (.tuple #[v, .int .i64 (if R.2.1 = 0 then 0 else (R.2.2 : Int)), .int .i64 (R.2.1 : Int)]) ∧ OwnT w' base v (if R.2.1 = 0 then R.1 else []) ∧ (R.2.1 ≠ 0 → v = .slice none 0 0)
set_option maxHeartbeats 1000000 in
theorem rScan_calls (s : ByteArray) (w : World) (hs : s.size ≤ 3518437208882) :
    Calls Tryz.prog 26 #[.string s] w fun e w' => rScanR w.heap.size (someS s) e w' ∧ Below w.heap.size w w' := by
  have U := Lib.hid (fun w => rSome_calls s w hs)
  obtain ⟨R, hR⟩ : ∃ R, R = someS s := ⟨_, rfl⟩
  rw [← hR] at U ⊢
  replace hR := Lib.hid hR
  replace hs := Lib.hid hs
  obtain ⟨ts, e0, p⟩ := R
  cases e0 with
  | zero =>
    go_enter Tryz.func26, Tryz.ntmps26
    (go_wp2_with fail; repeat (any_goals (go_quiet (fail); go_wp2_with fail)))
    refine (U.out _).mono ?_
    rintro e w1 ⟨⟨v, rfl, ho⟩, hb⟩
    simp only at ho
    replace ho := Lib.hid ho
    (go_wp2_with fail; repeat (any_goals (go_quiet (fail); go_wp2_with fail)))
    go_ret3
    exact ⟨⟨v, rfl, ho.out, fun h => absurd rfl h⟩, hb⟩
  | succ e0 =>
    have hne2 : (((e0 + 1 : Nat) : Int) != 0) = true := by simp; omega
    go_enter Tryz.func26, Tryz.ntmps26
    (go_wp2_with fail; repeat (any_goals (go_quiet (fail); go_wp2_with fail)))
    refine (U.out _).mono ?_
    rintro e w1 ⟨⟨v, rfl, ho⟩, hb⟩
    clear ho
    simp only
    obtain ⟨e1, he1⟩ : ∃ e1, e1 = ((e0 + 1 : Nat) : Int) := ⟨_, rfl⟩
    rw [← he1] at hne2 ⊢
    replace he1 := Lib.hid he1
    (go_wp2_with fail; repeat (any_goals (go_quiet (fail); go_wp2_with fail)))
    go_ret3
    refine ⟨⟨.slice none 0 0, ?_, OwnT.nil _ _, fun _ => rfl⟩, hb⟩
    rw [he1.out]; rfl

end Go.Proofs.YtibopkodoidjoaaGreatDoor

/- Package scan: all. -/
namespace Go.Proofs.YtibopkodoidjoaaGreatDoor
open Go Go.RowKit

/-- What a yield answers, over what it gathers. -/
structure YieldOk (F : Nat) (caps : Array Value) (N n0 : Nat) (I : Nat → List Tk → World → Prop) : Prop where
  ent : ∀ args w, (callFunc F args).run Tryz.prog w = .ok (.enter F args) w
  call : ∀ b s p ts t w, ts.length < N → I b ts w → ScB s p b w → n0 ≤ b → n0 ≤ w.heap.size → Calls Tryz.prog F (#[tkV t] ++ caps) w fun e w' => e = .returned (.bool true) ∧ I b (ts ++ [t]) w' ∧ ScB s p b w' ∧ Below n0 w w'
  stab : ∀ b ts w w', I b ts w → w.grownBy w' (some b) → I b ts w'
/-- What all answers. -/
def AllR (A : Nat → Addr) (n0 : Nat) (I : Nat → List Tk → World → Prop) (R : List Tk × Nat × Nat) (e : Ending) (w' : World) : Prop :=
  (∃ b, I b R.1 w') ∧ (if R.2.1 = 0 then e = .returned .nilIface else ∃ g, n0 ≤ g ∧ e = .returned (.iface 69 (.pointer (some ⟨g, 0, none⟩))) ∧ AtB (R.2.2 : Int) (.iface 237 (.pointer (some (A R.2.1)))) g w')
theorem blk_idem (s : ByteArray) (i : Nat) : blkAt s (blkAt s i) = blkAt s i := by
  rw [blkAt_eq s (blkAt s i)]
  by_cases h : blkAt s i < s.size
  · rw [if_neg (by rw [blkAt_not s _ i (Nat.le_refl _) h]; exact fun h => absurd h.2 Bool.false_ne_true)]
  · rw [if_neg (fun h2 => h h2.1)]
set_option maxHeartbeats 2000000 in
set_option maxRecDepth 100000 in
theorem all_calls {A : Nat → Addr} {B : Nat} (s : ByteArray) (F : Nat) (caps : Array Value) (I : Nat → List Tk → World → Prop) (n0 : Nat) (w : World) (hE : Env A B SJ w) (hn0 : n0 ≤ w.heap.size) (hBn : B ≤ n0) (hs : s.size ≤ 35184372088830) (hY : YieldOk F caps s.size n0 I)
    (hI : ∀ b w', w.heap.size ≤ b → Below w.heap.size w w' → I b [] w') :
    Calls Tryz.prog 52 #[.string s, .func (.func F) #[] caps] w fun e w' => AllR A n0 I (someS s) e w' ∧ Below n0 w w' := by
  have C := Lib.hid (scalarsCheck_calls (A := A) (B := B) s w (Nat.le_trans hs (by decide)) (hE.sub (by decide)))
  obtain ⟨R, hR⟩ : ∃ R, R = someS s := ⟨_, rfl⟩
  rw [← hR]
  replace hR := Lib.hid hR
  replace hI := Lib.hid hI
  have hent := hY.ent
  replace hY := Lib.hid hY
  replace hs := Lib.hid hs
  go_enter Tryz.func52, Tryz.ntmps52
  (go_wp2_with fail; repeat (any_goals (go_quiet (fail); go_wp2_with fail)))
  refine C.out.mono ?_
  rintro e w1 ⟨rfl, hb⟩
  have hb1 : Below w.heap.size w w1 := bcall (by repeat (first | assumption | exact Below.refl _ _ | apply Below.drew | apply below_drewN | apply balloc | (refine Below.setCell ?_ (by first | omega | (simp <;> omega)) _))) hb
  clear hb
  by_cases hu : utfE s = 0
  · rw [hu]
    replace hu := Lib.hid hu
    unfold errV
    have hv0 : brkAt s 0 = s.size := by
      have h := hu.out
      unfold utfE at h
      split at h
      · cases h
      · have := brkAt_le s; omega
    have hR0 : R = scanAt s 0 := by rw [hR.out, someS_eq, if_pos hu.out]
    replace hR0 := Lib.hid hR0
    replace hv0 := Lib.hid hv0
    have hz1 := hb1.size
    (go_wp2_with fail; repeat (any_goals (go_quiet (fail); go_wp2_with fail)))
    have hsc0 : ScB s (0 : Int) w1.heap.size (w1.alloc (.cells #[.string s, .int .i64 0] 162 (0, 0))) := heap_alloc_new w1 _
    refine (blanks_calls s 0 w1.heap.size _ (Nat.le_trans hs.out (by decide)) (Nat.zero_le _) hsc0).mono ?_
    rintro e w2 ⟨rfl, hsc, hg⟩
    have hb2 : Below w.heap.size w w2 := (hb1.alloc (by omega) _).trans (grown_below hg (by simp; omega) (by omega))
    generalize w1.heap.size = b at *
    clear hsc0 hg hb1
    replace hsc := Lib.hid hsc
    (go_wp2_with fail; repeat (any_goals (go_quiet (fail); go_wp2_with fail)))
    go_loopg [] (s.size + 1 - blkAt s 0) (fun kq wr => ∃ (k : Nat) (ts : List Tk), ScB s (k : Int) b wr ∧ Hid (k ≤ s.size ∧ blkAt s k = k ∧ brkAt s k = s.size ∧ I b ts wr ∧ ts.length ≤ k ∧ kq + k = s.size + 1 ∧ (ts ++ (scanAt s k).1, (scanAt s k).2) = R) ∧ Below n0 w wr)
    case atStart =>
      have hl := blkAt_low s 0 (Nat.zero_le _)
      have h1 := hl.2.1
      exact ⟨blkAt s 0, [], hsc.out, Lib.hid ⟨h1, blk_idem s 0, hl.brk hv0.out, hI.out b _ hz1 hb2, Nat.zero_le _, by omega, by rw [hR0.out, scan_blk s _ 0 (Nat.le_refl _) hv0.out]; rfl⟩, hb2.mono hn0⟩
    case round =>
      obtain ⟨k, ts, hsc2, H, hB⟩ := hrel
      clear hsc hb2
      have x1 := hsc2.at
      have hbl : b < wr.heap.size := ltB hsc2
      replace hsc2 := Lib.hid hsc2
      by_cases hlt : k < s.size
      · have hlt' : (k : Int) < (s.size : Int) := by omega
        have T := Lib.hid (fun w hE hsc => tok_calls (A := A) (B := B) s k b w hE hs.out hsc hlt H.out.2.2.1)
        (go_wp2_with fail; repeat (any_goals (go_quiet (fail); go_wp2_with fail)))
        refine (T.out _ (hE.below (hB.mono hBn)) hsc2.out).mono ?_
        clear T
        have ok3 := Lib.hid (fun h => oneAt_ok s k hlt H.out.2.2.1 h)
        have hst := Lib.hid (scan_step s k H.out.1 H.out.2.2.1)
        have bad3 := Lib.hid (fun h => oneAt_bad s k hlt h)
        generalize hO : oneAt s k = O at *
        obtain ⟨k0, pl, t⟩ := O
        replace hO := Lib.hid hO
        rintro e w3 ⟨hr, hb3⟩
        have hB3 : Below n0 w w3 := hB.trans (hb3.mono (Nat.le_trans hn0 hB.size))
        replace hsc2 := Lib.hid (hsc2.out.next hb3)
        have hI3 := Lib.hid (hY.out.stab b ts _ _ H.out.2.2.2.1 (grown_of_below hb3))
        have hbl3 : b < w3.heap.size := ltB hsc2.out
        have hz3 := hB3.size
        have hzr := hB.size
        clear x1 hbl hB
        cases k0 with
        | zero =>
          have hr := (nextR_ok rfl).1 hr
          subst hr
          have hq : Hid (t.fr = k ∧ k < t.to ∧ t.to ≤ s.size ∧ brkAt s t.to = s.size) := Lib.hid (by have h := ok3.out rfl; exact ⟨h.1, h.2.1, h.2.2.1, h.2.2.2.1⟩)
          have hst2 := hst.out
          clear ok3 bad3 hst
          replace hst2 := Lib.hid hst2
          have q1 := hsc2.out.at
          have qf := freeB hsc2.out 1
          unfold tkV
          (go_wp2_with fail; repeat (any_goals (go_quiet (fail); go_wp2_with fail)))
          refine (hY.out.call b s (t.to : Int) ts t _ ?_ ?_ ?_ ?_ ?_).mono ?_
          · have := H.out.2.2.2.2.1; omega
          · exact hY.out.stab b ts _ _ (hY.out.stab b ts _ _ hI3.out (grown_set w3 b 1 _)) (World.grownBy_alloc _ _ _)
          · exact (hsc2.out.set).next ((by repeat (first | assumption | exact Below.refl _ _ | apply Below.drew | apply below_drewN | apply balloc | (refine Below.setCell ?_ (by first | omega | (simp <;> omega)) _))))
          · omega
          · simp; omega
          rintro e w4 ⟨rfl, hI4, hsc4, hb4⟩
          have hB4 : Below n0 w w4 := by
            refine Below.trans ?_ hb4
            exact (hB3.setCell (p := ⟨b, 1, none⟩) (by simp; omega) _).alloc (by simp; omega) _
          have hz4 := hB4.size
          have hbl4 : b < w4.heap.size := ltB hsc4
          clear hb4 hb3 q1 qf hI3 hsc2
          replace hsc4 := Lib.hid hsc4
          replace hI4 := Lib.hid hI4
          have hq1 := hq.out.2.2.1
          (go_wp2_with fail; repeat (any_goals (go_quiet (fail); go_wp2_with fail)))
          refine (blanks_calls s t.to b w4 (Nat.le_trans hs.out (by decide)) hq1 hsc4.out).mono ?_
          rintro e w5 ⟨rfl, hsc5, hg5⟩
          have hB5 : Below n0 w w5 := hB4.trans (grown_below hg5 (by omega) (by omega))
          have hI5 := hY.out.stab b _ _ _ hI4.out hg5
          clear hg5 hsc4 hI4
          replace hI5 := Lib.hid hI5
          replace hsc5 := Lib.hid hsc5
          (go_wp2_with fail; repeat (any_goals (go_quiet (fail); go_wp2_with fail)))
          go_roundg (s.size + 1 - blkAt s t.to)
          case measure =>
            have h1 := (blkAt_low s t.to hq1)
            have h2 := hq.out.2.1
            have h3 := H.out.2.2.2.2.2.1
            have h4 := h1.1
            have h5 := h1.2.1
            omega
          case rel =>
            have h1 := (blkAt_low s t.to hq1)
            have h2 := hq.out.2.1
            have h3 := H.out.2.2.2.2.2.1
            have h4 := h1.1
            have h5 := h1.2.1
            have h6 := H.out.2.2.2.2.1
            have h7 := hst2.out
            rw [H.out.2.1, if_pos hlt, hO.out, if_pos rfl] at h7
            have h8 := H.out.2.2.2.2.2.2
            rw [h7] at h8
            refine ⟨blkAt s t.to, ts ++ [t], hsc5.out, Lib.hid ⟨h5, blk_idem s _, h1.brk hq.out.2.2.2, hI5.out, by rw [List.length_append, List.length_singleton]; omega, by omega, ?_⟩, hB5⟩
            rw [← h8, scan_blk s _ t.to (Nat.le_refl _) hq.out.2.2.2, List.append_assoc]
            rfl
        | succ k0 =>
          obtain ⟨g, hg, he, hat⟩ := (nextR_bad rfl).1 hr
          subst he
          clear hr
          replace hat := Lib.hid hat
          (go_wp2_with fail; repeat (any_goals (go_quiet (fail); go_wp2_with fail)))
          go_ret
          have hI6 := hY.out.stab b ts _ _ hI3.out (World.grownBy_alloc w3 (.cells #[.int .i64 0, .int .i64 0, .int .i64 0, .string ⟨#[]⟩] 59 (0, 0)) _)
          have h7 := hst.out
          rw [H.out.2.1, if_pos hlt, hO.out, if_neg (by simp)] at h7
          have h8 := H.out.2.2.2.2.2.2
          rw [h7] at h8
          refine ⟨⟨⟨b, ?_⟩, ?_⟩, hB3.alloc (by omega) _⟩
          · rw [← h8, List.append_nil]; exact hI6
          · rw [← h8, if_neg (by simp)]
            refine ⟨g, by omega, rfl, ?_⟩
            have h9 := hat.out
            unfold AtB at h9 ⊢
            rw [Below.heap_alloc _ _ _ (ltB h9)]
            exact h9
      · have hlt' : ¬ (k : Int) < (s.size : Int) := by omega
        (go_wp2_with fail; repeat (any_goals (go_quiet (fail); go_wp2_with fail)))
        go_ret
        have h7 := scanAt_eq s k H.out.2.2.1
        rw [if_neg hlt] at h7
        have h8 := H.out.2.2.2.2.2.2
        rw [h7] at h8
        refine ⟨⟨⟨b, ?_⟩, ?_⟩, (by repeat (first | assumption | exact Below.refl _ _ | apply Below.drew | apply below_drewN | apply balloc | (refine Below.setCell ?_ (by first | omega | (simp <;> omega)) _)))⟩
        · rw [← h8, List.append_nil]; exact H.out.2.2.2.1
        · rw [← h8, if_pos rfl]; rfl
  · have hu1 : utfE s = 1 := by unfold utfE at hu ⊢; split at hu <;> simp_all
    have hR1 : R = ([], 1, brkAt s 0) := by rw [hR.out, someS_eq, if_neg hu]
    rw [hu1]
    replace hR1 := Lib.hid hR1
    replace hu := Lib.hid hu
    replace hu1 := Lib.hid hu1
    unfold errV
    have hz1 := hb1.size
    (go_wp2_with fail; repeat (any_goals (go_quiet (fail); go_wp2_with fail)))
    refine (fault_calls _ _ _ _).mono ?_
    rintro e w2 ⟨g, hg, rfl, hat, hb⟩
    have hb2 : Below w.heap.size w w2 := bcall hb1 hb
    clear hb hb1
    replace hat := Lib.hid hat
    (go_wp2_with fail; repeat (any_goals (go_quiet (fail); go_wp2_with fail)))
    go_ret
    rw [hR1.out]
    refine ⟨⟨⟨g, hI.out g _ (Nat.le_trans hz1 hg) hb2⟩, ?_⟩, hb2.mono hn0⟩
    rw [if_neg (by simp)]
    exact ⟨g, Nat.le_trans hn0 (Nat.le_trans hz1 hg), rfl, hat.out⟩

end Go.Proofs.YtibopkodoidjoaaGreatDoor

/- Package scan: Scan. -/
namespace Go.Proofs.YtibopkodoidjoaaGreatDoor
open Go Go.RowKit

/-- Scan's list, while all runs. -/
def ScanI (c : Nat) (b : Nat) (ts : List Tk) (w : World) : Prop :=
  c < w.heap.size ∧ c ≠ b ∧ ∃ v, w.heap[c]? = some (.cells #[v] 49 (0, 0)) ∧ w.ownsRow (c + 1) 59 4 v ts.length (ts.flatMap tkC) ∧ v.ownBlock ≠ some b
theorem scan_yield (c N : Nat) (hN : N ≤ 3518437208883) : YieldOk 53 #[.pointer (some ⟨c, 0, none⟩)] N c (ScanI c) where
  ent := enters_of Tryz.func53 (by kernel_rfl) rfl
  call := by
    intro b s p ts t w hts hI hsc hb hw
    obtain ⟨h1, h2, v, h3, h4, h5⟩ := hI
    refine (yield_calls t c (c + 1) ts.length (ts.flatMap tkC) v w h3 h4 h1 (Nat.lt_succ_self c) (by omega)).mono ?_
    rintro e w1 ⟨rfl, v', g1, g2, g3, g4⟩
    have hbl := ltB hsc
    refine ⟨rfl, ⟨Nat.lt_of_lt_of_le h1 g4.size, h2, v', g1, ?_, ?_⟩, ?_, ⟨g4.os, g4.tape, g4.output, g4.size, fun k hk => g4.block k (by omega) (by omega) (fun h => ?_)⟩⟩
    · rw [List.length_append, List.length_singleton, List.flatMap_append]
      simpa using g2
    · rcases g3 with g3 | ⟨g, g3, g5⟩
      · rw [g3]; exact h5
      · rw [g3]; intro h; cases h; omega
    · unfold ScB at hsc ⊢
      rw [g4.block b hbl (fun h => h2 h.symm) (fun h => h5 h.symm)]
      exact hsc
    · have := (h4.lt k h.symm).1
      omega
  stab := by
    rintro b ts w w1 ⟨h1, h2, v, h3, h4, h5⟩ hg
    refine ⟨Nat.lt_of_lt_of_le h1 hg.size, h2, v, ?_, h4.kept hg (Or.inr h5), h5⟩
    rw [hg.block c h1 (fun h => h2 (by cases h; rfl))]
    exact h3
theorem own_base {w : World} {base base' e size : Nat} {v : Value} {n : Nat} {xs : List Value} (h : w.ownsRow base e size v n xs) (hb : base' ≤ base) : w.ownsRow base' e size v n xs := by
  obtain ⟨h1, h2 | ⟨g, cap, cur, h2, h3, h4⟩⟩ := h
  · exact ⟨h1, Or.inl h2⟩
  · exact ⟨h1, Or.inr ⟨g, cap, cur, h2, Nat.le_trans hb h3, h4⟩⟩
/-- What Scan answers: the list, owned; or nil, with the error's number and place. -/
def ScanR (A : Nat → Addr) (base : Nat) (R : List Tk × Nat × Nat) (e : Ending) (w' : World) : Prop :=
  if R.2.1 = 0 then ∃ v, e = .returned (.tuple #[v, .nilIface]) ∧ w'.ownsRow base 59 4 v R.1.length (R.1.flatMap tkC)
  else ∃ g, base ≤ g ∧ e = .returned (.tuple #[.slice none 0 0, .iface 69 (.pointer (some ⟨g, 0, none⟩))]) ∧ AtB (R.2.2 : Int) (.iface 237 (.pointer (some (A R.2.1)))) g w'
set_option maxHeartbeats 2000000 in
set_option maxRecDepth 100000 in
theorem Scan_calls {A : Nat → Addr} {B : Nat} (s : ByteArray) (w : World) (hE : Env A B SJ w) (hs : s.size ≤ 3518437208883) :
    Calls Tryz.prog 25 #[.string s] w fun e w' => ScanR A w.heap.size (someS s) e w' ∧ Below w.heap.size w w' := by
  have hs' : s.size ≤ 35184372088830 := by omega
  have Y := Lib.hid (scan_yield w.heap.size s.size hs)
  generalize hR : someS s = R
  replace hR := Lib.hid hR
  replace hs := Lib.hid hs
  replace hs' := Lib.hid hs'
  have hmf : ∀ (fn : Fn) (first cap : Array Value) (w : World), (Instr.makeFunc fn first cap).run Tryz.prog w = .ok (.func fn first cap) w := fun _ _ _ _ => rfl
  go_enter Tryz.func25, Tryz.ntmps25
  (go_wp2_with fail; repeat (any_goals (go_quiet (fail); go_wp2_with fail)))
  have hI : ∀ b w', (w.alloc (.cells #[.slice none 0 0] 49 (0, 0))).heap.size ≤ b → Below (w.alloc (.cells #[.slice none 0 0] 49 (0, 0))).heap.size (w.alloc (.cells #[.slice none 0 0] 49 (0, 0))) w' → ScanI w.heap.size b [] w' := by
    intro b w' hb h
    have h1 := h.size
    simp at h1 hb
    refine ⟨by omega, by omega, .slice none 0 0, ?_, World.ownsRow_nil _ _ _ _, by simp [Value.ownBlock]⟩
    rw [h.block _ (by simp)]
    exact heap_alloc_new w _
  refine (all_calls s 53 #[.pointer (some ⟨w.heap.size, 0, none⟩)] (ScanI w.heap.size) w.heap.size _ (hE.next (by repeat (first | assumption | exact Below.refl _ _ | apply Below.drew | apply below_drewN | apply balloc | (refine Below.setCell ?_ (by first | omega | (simp <;> omega)) _)))) (by simp) hE.hB hs'.out Y.out hI).mono ?_
  rintro e w1 ⟨⟨⟨b, hI1⟩, hr⟩, hb⟩
  have hb1 : Below w.heap.size w w1 := by
    refine Below.trans ?_ hb
    exact (by repeat (first | assumption | exact Below.refl _ _ | apply Below.drew | apply below_drewN | apply balloc | (refine Below.setCell ?_ (by first | omega | (simp <;> omega)) _)))
  obtain ⟨h1, h2, v, h3, h4, h5⟩ := hI1
  rw [hR.out] at h4 hr
  clear hI hb
  by_cases h0 : R.2.1 = 0
  · rw [if_pos h0] at hr
    subst hr
    have x0 : w1.cell? ⟨w.heap.size, 0, none⟩ = some v := cellB h3 0 rfl
    replace h3 := Lib.hid h3
    replace h4 := Lib.hid h4
    replace h5 := Lib.hid h5
    replace h0 := Lib.hid h0
    (go_wp2_with fail; repeat (any_goals (go_quiet (fail); go_wp2_with fail)))
    go_ret2
    refine ⟨?_, hb1⟩
    unfold ScanR
    rw [if_pos h0.out]
    exact ⟨v, rfl, own_base h4.out (Nat.le_succ _)⟩
  · rw [if_neg h0] at hr
    obtain ⟨g, hg, rfl, hat⟩ := hr
    replace h3 := Lib.hid h3
    replace h4 := Lib.hid h4
    replace h5 := Lib.hid h5
    replace h0 := Lib.hid h0
    replace hat := Lib.hid hat
    (go_wp2_with fail; repeat (any_goals (go_quiet (fail); go_wp2_with fail)))
    go_ret2
    refine ⟨?_, hb1⟩
    unfold ScanR
    rw [if_neg h0.out]
    exact ⟨g, hg, rfl, hat.out⟩

end Go.Proofs.YtibopkodoidjoaaGreatDoor

/- The errors' numbers. -/
namespace Go.Proofs.YtibopkodoidjoaaGreatDoor
open Go Go.RowKit
abbrev SVN : List Nat := [1, 2, 3, 4, 5, 6, 7, 8, 9, 10, 11, 12, 13, 14, 15, 16, 17, 18, 19]

theorem load_glob {w : World} {o : Oper} {g : Nat} {v : Value} (hc : w.cell? ⟨g, 0, none⟩ = some v) :
    ∀ ρ : Operand → Value, ρ (.global g) = .pointer (some ⟨g, 0, none⟩) → (execOp ρ { o with op := .load 26 (.global g) }).run Tryz.prog w = .ok (.value v) w := by
  intro ρ h
  have hu := Tryz.underlying26
  simp [execOp, h, Instr.loadAt, Instr.sureAddr, loadVar, isAgg, underlying, hu, hc, Result.andThen, Sem.run_bind]
theorem wpList_buildIs {P : Program} {w : World} {ops : Array Oper} {rest : List Oper} {o : Oper} {a : Act} {Q : Exit → Act → World → Prop} (hg : o.guard = none) (t : TypeId) (parts : Array (Nat × Operand)) (ho : o.op = .build t parts) {cells : Array Value}
    (hf : P.built t (parts.map fun (i, x) => (i, a.eval x)).toList = some cells)
    (h : wpList P ops Q rest (a.put o.dst (.agg cells)) w) : wpList P ops Q (o :: rest) a w :=
  wpList_build hg t parts ho (by rw [hf]; rfl) (by rw [hf]; exact h)
theorem info_list : (Tryz.prog.info? 123).map (·.size) = some 19 := by kernel_rfl
set_option maxHeartbeats 1000000 in
set_option maxRecDepth 100000 in
theorem list_calls {A : Nat → Addr} {B : Nat} (w : World) (hE : Env A B SVN w) :
    Calls Tryz.prog 55 #[] w fun e w' => e = .returned (.agg #[errV A 1, errV A 2, errV A 3, errV A 4, errV A 5, errV A 6, errV A 7, errV A 8, errV A 9, errV A 10, errV A 11, errV A 12, errV A 13, errV A 14, errV A 15, errV A 16, errV A 17, errV A 18, errV A 19]) ∧ Below w.heap.size w w' := by
  obtain ⟨o, ho⟩ : ∃ o, o = Obj.cells (Array.replicate 19 Value.nilIface) 123 (0, 0) := ⟨_, rfl⟩
  have c1 : (w.alloc o).cell? ⟨3, 0, none⟩ = some (.iface 237 (.pointer (some (A 1)))) := (hE.next (balloc (Below.refl _ _))).e1
  have c2 : (w.alloc o).cell? ⟨0, 0, none⟩ = some (.iface 237 (.pointer (some (A 2)))) := (hE.next (balloc (Below.refl _ _))).e2
  have c3 : (w.alloc o).cell? ⟨1, 0, none⟩ = some (.iface 237 (.pointer (some (A 3)))) := (hE.next (balloc (Below.refl _ _))).e3
  have c4 : (w.alloc o).cell? ⟨4, 0, none⟩ = some (.iface 237 (.pointer (some (A 4)))) := (hE.next (balloc (Below.refl _ _))).e4
  have c5 : (w.alloc o).cell? ⟨6, 0, none⟩ = some (.iface 237 (.pointer (some (A 5)))) := (hE.next (balloc (Below.refl _ _))).e5
  have c6 : (w.alloc o).cell? ⟨5, 0, none⟩ = some (.iface 237 (.pointer (some (A 6)))) := (hE.next (balloc (Below.refl _ _))).e6
  have c7 : (w.alloc o).cell? ⟨8, 0, none⟩ = some (.iface 237 (.pointer (some (A 7)))) := (hE.next (balloc (Below.refl _ _))).e7
  have c8 : (w.alloc o).cell? ⟨9, 0, none⟩ = some (.iface 237 (.pointer (some (A 8)))) := (hE.next (balloc (Below.refl _ _))).e8
  have c9 : (w.alloc o).cell? ⟨10, 0, none⟩ = some (.iface 237 (.pointer (some (A 9)))) := (hE.next (balloc (Below.refl _ _))).e9
  have c10 : (w.alloc o).cell? ⟨11, 0, none⟩ = some (.iface 237 (.pointer (some (A 10)))) := (hE.next (balloc (Below.refl _ _))).e10
  have c11 : (w.alloc o).cell? ⟨12, 0, none⟩ = some (.iface 237 (.pointer (some (A 11)))) := (hE.next (balloc (Below.refl _ _))).e11
  have c12 : (w.alloc o).cell? ⟨7, 0, none⟩ = some (.iface 237 (.pointer (some (A 12)))) := (hE.next (balloc (Below.refl _ _))).e12
  have c13 : (w.alloc o).cell? ⟨13, 0, none⟩ = some (.iface 237 (.pointer (some (A 13)))) := (hE.next (balloc (Below.refl _ _))).e13
  have c14 : (w.alloc o).cell? ⟨14, 0, none⟩ = some (.iface 237 (.pointer (some (A 14)))) := (hE.next (balloc (Below.refl _ _))).e14
  have c15 : (w.alloc o).cell? ⟨15, 0, none⟩ = some (.iface 237 (.pointer (some (A 15)))) := (hE.next (balloc (Below.refl _ _))).e15
  have c16 : (w.alloc o).cell? ⟨16, 0, none⟩ = some (.iface 237 (.pointer (some (A 16)))) := (hE.next (balloc (Below.refl _ _))).e16
  have c17 : (w.alloc o).cell? ⟨17, 0, none⟩ = some (.iface 237 (.pointer (some (A 17)))) := (hE.next (balloc (Below.refl _ _))).e17
  have c18 : (w.alloc o).cell? ⟨18, 0, none⟩ = some (.iface 237 (.pointer (some (A 18)))) := (hE.next (balloc (Below.refl _ _))).e18
  have c19 : (w.alloc o).cell? ⟨19, 0, none⟩ = some (.iface 237 (.pointer (some (A 19)))) := (hE.next (balloc (Below.refl _ _))).e19
  have hlast : (w.alloc o).heap[w.heap.size]? = some (.cells (Array.replicate 19 Value.nilIface) 123 (0, 0)) := by rw [ho]; exact heap_alloc_new w _
  have hbel : ∀ cs, Below w.heap.size w ((w.alloc o).setRow w.heap.size cs) := fun cs => below_setRow (balloc (Below.refl _ _)) (Nat.le_refl _) cs
  simp only [errV]
  generalize A 1 = a1 at *
  generalize A 2 = a2 at *
  generalize A 3 = a3 at *
  generalize A 4 = a4 at *
  generalize A 5 = a5 at *
  generalize A 6 = a6 at *
  generalize A 7 = a7 at *
  generalize A 8 = a8 at *
  generalize A 9 = a9 at *
  generalize A 10 = a10 at *
  generalize A 11 = a11 at *
  generalize A 12 = a12 at *
  generalize A 13 = a13 at *
  generalize A 14 = a14 at *
  generalize A 15 = a15 at *
  generalize A 16 = a16 at *
  generalize A 17 = a17 at *
  generalize A 18 = a18 at *
  generalize A 19 = a19 at *
  clear hE
  go_enter Tryz.func55, Tryz.ntmps55
  refine wp_seq ?_
  refine wp_region_lit ?_
  refine Great.wpList_allocTo rfl (some 0) rfl (.pointer (some ⟨w.heap.size, 0, none⟩)) o (by subst ho; kernel_rfl) ?_
  refine wpList_nil ?_
  refine wp_seq ?_
  refine wp_region_lit ?_
  refine Great.wpList_loadVarTo rfl (some 1) rfl 26 3 rfl (.iface 237 (.pointer (some a1))) (load_glob c1) ?_
  refine Great.wpList_loadVarTo rfl (some 2) rfl 26 0 rfl (.iface 237 (.pointer (some a2))) (load_glob c2) ?_
  refine Great.wpList_loadVarTo rfl (some 3) rfl 26 1 rfl (.iface 237 (.pointer (some a3))) (load_glob c3) ?_
  refine Great.wpList_loadVarTo rfl (some 4) rfl 26 4 rfl (.iface 237 (.pointer (some a4))) (load_glob c4) ?_
  refine Great.wpList_loadVarTo rfl (some 5) rfl 26 6 rfl (.iface 237 (.pointer (some a5))) (load_glob c5) ?_
  refine Great.wpList_loadVarTo rfl (some 6) rfl 26 5 rfl (.iface 237 (.pointer (some a6))) (load_glob c6) ?_
  refine Great.wpList_loadVarTo rfl (some 7) rfl 26 8 rfl (.iface 237 (.pointer (some a7))) (load_glob c7) ?_
  refine Great.wpList_loadVarTo rfl (some 8) rfl 26 9 rfl (.iface 237 (.pointer (some a8))) (load_glob c8) ?_
  refine Great.wpList_loadVarTo rfl (some 9) rfl 26 10 rfl (.iface 237 (.pointer (some a9))) (load_glob c9) ?_
  refine Great.wpList_loadVarTo rfl (some 10) rfl 26 11 rfl (.iface 237 (.pointer (some a10))) (load_glob c10) ?_
  refine Great.wpList_loadVarTo rfl (some 11) rfl 26 12 rfl (.iface 237 (.pointer (some a11))) (load_glob c11) ?_
  refine Great.wpList_loadVarTo rfl (some 12) rfl 26 7 rfl (.iface 237 (.pointer (some a12))) (load_glob c12) ?_
  refine Great.wpList_loadVarTo rfl (some 13) rfl 26 13 rfl (.iface 237 (.pointer (some a13))) (load_glob c13) ?_
  refine Great.wpList_loadVarTo rfl (some 14) rfl 26 14 rfl (.iface 237 (.pointer (some a14))) (load_glob c14) ?_
  refine Great.wpList_loadVarTo rfl (some 15) rfl 26 15 rfl (.iface 237 (.pointer (some a15))) (load_glob c15) ?_
  refine Great.wpList_loadVarTo rfl (some 16) rfl 26 16 rfl (.iface 237 (.pointer (some a16))) (load_glob c16) ?_
  refine Great.wpList_loadVarTo rfl (some 17) rfl 26 17 rfl (.iface 237 (.pointer (some a17))) (load_glob c17) ?_
  refine Great.wpList_loadVarTo rfl (some 18) rfl 26 18 rfl (.iface 237 (.pointer (some a18))) (load_glob c18) ?_
  refine Great.wpList_loadVarTo rfl (some 19) rfl 26 19 rfl (.iface 237 (.pointer (some a19))) (load_glob c19) ?_
  refine wpList_buildIs rfl _ _ rfl (cells := #[.iface 237 (.pointer (some a1)), .iface 237 (.pointer (some a2)), .iface 237 (.pointer (some a3)), .iface 237 (.pointer (some a4)), .iface 237 (.pointer (some a5)), .iface 237 (.pointer (some a6)), .iface 237 (.pointer (some a7)), .iface 237 (.pointer (some a8)), .iface 237 (.pointer (some a9)), .iface 237 (.pointer (some a10)), .iface 237 (.pointer (some a11)), .iface 237 (.pointer (some a12)), .iface 237 (.pointer (some a13)), .iface 237 (.pointer (some a14)), .iface 237 (.pointer (some a15)), .iface 237 (.pointer (some a16)), .iface 237 (.pointer (some a17)), .iface 237 (.pointer (some a18)), .iface 237 (.pointer (some a19))]) (by kernel_rfl) ?_
  refine wpList_store_row rfl 123 (.tmp 0) (.tmp 20) rfl w.heap.size #[.iface 237 (.pointer (some a1)), .iface 237 (.pointer (some a2)), .iface 237 (.pointer (some a3)), .iface 237 (.pointer (some a4)), .iface 237 (.pointer (some a5)), .iface 237 (.pointer (some a6)), .iface 237 (.pointer (some a7)), .iface 237 (.pointer (some a8)), .iface 237 (.pointer (some a9)), .iface 237 (.pointer (some a10)), .iface 237 (.pointer (some a11)), .iface 237 (.pointer (some a12)), .iface 237 (.pointer (some a13)), .iface 237 (.pointer (some a14)), .iface 237 (.pointer (some a15)), .iface 237 (.pointer (some a16)), .iface 237 (.pointer (some a17)), .iface 237 (.pointer (some a18)), .iface 237 (.pointer (some a19))] (by kernel_rfl) (by kernel_rfl) 123 _ hlast info_list (by kernel_rfl) (by kernel_rfl) ?_
  refine wpList_nil ?_
  simp only [Exit.then]
  refine wp_ret ?_
  refine bodyPost_ret (results_cell_row rfl _ _ w.heap.size 123 #[.iface 237 (.pointer (some a1)), .iface 237 (.pointer (some a2)), .iface 237 (.pointer (some a3)), .iface 237 (.pointer (some a4)), .iface 237 (.pointer (some a5)), .iface 237 (.pointer (some a6)), .iface 237 (.pointer (some a7)), .iface 237 (.pointer (some a8)), .iface 237 (.pointer (some a9)), .iface 237 (.pointer (some a10)), .iface 237 (.pointer (some a11)), .iface 237 (.pointer (some a12)), .iface 237 (.pointer (some a13)), .iface 237 (.pointer (some a14)), .iface 237 (.pointer (some a15)), .iface 237 (.pointer (some a16)), .iface 237 (.pointer (some a17)), .iface 237 (.pointer (some a18)), .iface 237 (.pointer (some a19))] (0, 0) _ (by kernel_rfl) (setRow_heap _ _ _ _ _ _ hlast) Tryz.underlying123 rfl info_list) rfl ⟨rfl, hbel _⟩

theorem run_index19 (cs : Array Value) (v : Value) (j : Nat) (hj : j < 19) (hv : cs[j]? = some v) (w : World) :
    (Instr.index 123 (.agg cs) (.int .i64 (j : Int))).run Tryz.prog w = .ok v w := by
  have h1 : (sizeOf 26).run Tryz.prog w = .ok 1 w := by kernel_rfl
  have h2 : (isAgg 26).run Tryz.prog w = .ok false w := by kernel_rfl
  have h0 : (0 : Int) ≤ (j : Int) ∧ (j : Int) < 19 := by omega
  simp [Instr.index, asIntOf, run_underlying Tryz.underlying123, h0, h1, h2, Result.andThen, Sem.run_bind, part, hv]
  intro h; omega
def ErrCells (A : Nat → Addr) (cs : Array Value) : Prop := ∀ j, j < 19 → cs[j]? = some (.iface 237 (.pointer (some (A (j + 1)))))
theorem errCells (A : Nat → Addr) : ErrCells A #[errV A 1, errV A 2, errV A 3, errV A 4, errV A 5, errV A 6, errV A 7, errV A 8, errV A 9, errV A 10, errV A 11, errV A 12, errV A 13, errV A 14, errV A 15, errV A 16, errV A 17, errV A 18, errV A 19] := by
  intro j hj
  have : j = 0 ∨ j = 1 ∨ j = 2 ∨ j = 3 ∨ j = 4 ∨ j = 5 ∨ j = 6 ∨ j = 7 ∨ j = 8 ∨ j = 9 ∨ j = 10 ∨ j = 11 ∨ j = 12 ∨ j = 13 ∨ j = 14 ∨ j = 15 ∨ j = 16 ∨ j = 17 ∨ j = 18 := by omega
  rcases this with rfl | rfl | rfl | rfl | rfl | rfl | rfl | rfl | rfl | rfl | rfl | rfl | rfl | rfl | rfl | rfl | rfl | rfl | rfl <;> rfl
theorem list_calls' {A : Nat → Addr} {B : Nat} (w : World) (hE : Env A B SVN w) :
    Calls Tryz.prog 55 #[] w fun e w' => ∃ cs, ErrCells A cs ∧ e = .returned (.agg cs) ∧ Below w.heap.size w w' :=
  (list_calls w hE).mono fun _ _ ⟨he, hb⟩ => ⟨_, errCells A, he, hb⟩
theorem Num_nil (w : World) : Calls Tryz.prog 28 #[.nilIface] w fun e w' => e = .returned (.int .i64 0) ∧ Below w.heap.size w w' := by
  go_enter Tryz.func28, Tryz.ntmps28
  (go_wp2_with fail; repeat (any_goals (go_quiet (fail); go_wp2_with fail)))
  go_ret
  exact ⟨rfl, (by repeat (first | assumption | exact Below.refl _ _ | apply Below.drew | apply below_drewN | apply balloc | (refine Below.setCell ?_ (by first | omega | (simp <;> omega)) _)))⟩
set_option maxHeartbeats 1000000 in
set_option maxRecDepth 100000 in
theorem Num_err {A : Nat → Addr} {B : Nat} (k : Nat) (w : World) (h1 : 1 ≤ k) (h2 : k ≤ 19) (hE : Env A B SVN w) :
    Calls Tryz.prog 28 #[.iface 237 (.pointer (some (A k)))] w fun e w' => e = .returned (.int .i64 k) ∧ Below w.heap.size w w' := by
  go_enter Tryz.func28, Tryz.ntmps28
  (go_wp2_with fail; repeat (any_goals (go_quiet (fail); go_wp2_with fail)))
  refine (list_calls' _ hE).mono ?_
  rintro e w1 ⟨cs, hcs, rfl, hb⟩
  have hE1 := hE.next hb
  replace hcs := Lib.hid hcs
  (go_wp2_with fail; repeat (any_goals (go_quiet (fail); go_wp2_with fail)))
  go_loop [8] (fun c => ∃ j : Nat, j < k ∧ c = .int .i64 (j : Int)) (fun c => 19 - (intOf c).toNat)
  case atStart => exact ⟨0, by omega, rfl⟩
  case round =>
    obtain ⟨j, hj, rfl⟩ := hrel
    have ix := fun w => run_index19 cs _ j (by omega) (hcs.out j (by omega)) w
    by_cases hl : j + 1 = k
    · subst hl
      (go_wp2_with fail; repeat (any_goals (go_quiet (fail); go_wp2_with fail)))
      go_ret
      exact ⟨by simp, hb⟩
    · have ms : ∀ m, 1 ≤ m → m ≤ 19 → m ∈ SVN := fun m h1 h2 => by simp [SVN]; omega
      obtain ⟨ca, ta, ba⟩ := hE1.blk k (ms k h1 h2)
      obtain ⟨cb, tb, bb⟩ := hE1.blk (j + 1) (ms (j + 1) (by omega) (by omega))
      have q := eqErr_other w1 (hE1.ne k (j + 1) (ms k h1 h2) (ms (j + 1) (by omega) (by omega)) (by omega)) ba bb
      replace ba := Lib.hid ba
      replace bb := Lib.hid bb
      replace hl := Lib.hid hl
      clear ms
      (go_wp2_with fail; repeat (any_goals (go_quiet (fail); go_wp2_with fail)))
      go_round
      case rel => exact ⟨j + 1, by have := hl.out; omega, by go_num⟩
      case measure => simp [intOf]; omega
theorem Num_calls {A : Nat → Addr} {B : Nat} (k : Nat) (w : World) (h2 : k ≤ 19) (hE : Env A B SVN w) :
    Calls Tryz.prog 28 #[errV A k] w fun e w' => e = .returned (.int .i64 k) ∧ Below w.heap.size w w' := by
  rcases Nat.eq_zero_or_pos k with rfl | h
  · exact Num_nil w
  · rw [errV_pos A h]; exact Num_err k w h h2 hE

end Go.Proofs.YtibopkodoidjoaaGreatDoor

/- Lists of tokens in memory; the statements' same; vellumnum.Place. -/
namespace Go.Proofs.YtibopkodoidjoaaGreatDoor
open Go Go.RowKit

theorem flat_get : ∀ (ts : List Tk) (j : Nat) (T : Tk) (i : Nat), ts[j]? = some T → i < 4 → (ts.flatMap tkC)[j * 4 + i]? = (tkC T)[i]?
  | [], j, T, i, h, _ => by simp at h
  | t :: ts, 0, T, i, h, hi => by
    simp at h
    subst h
    rw [List.flatMap_cons, Nat.zero_mul, Nat.zero_add, List.getElem?_append_left (by show i < 4; exact hi)]
  | t :: ts, j + 1, T, i, h, hi => by
    simp at h
    rw [List.flatMap_cons, List.getElem?_append_right (by show 4 ≤ (j + 1) * 4 + i; omega)]
    have : (j + 1) * 4 + i - (tkC t).length = j * 4 + i := by show (j + 1) * 4 + i - 4 = _; omega
    rw [this]
    exact flat_get ts j T i h hi
theorem OwnT.form {w : World} {base : Nat} {v : Value} {ts : List Tk} (h : OwnT w base v ts) : (ts = [] ∧ v = .slice none 0 0) ∨ ∃ g cap, v = .slice (some ⟨g, 0, none⟩) ts.length cap ∧ base ≤ g ∧ g < w.heap.size ∧ ts.length ≤ cap ∧ cap ≤ maxLen := by
  obtain ⟨h1, ⟨rfl, h3⟩ | ⟨g, cap, cur, rfl, hbg, hg, hn, hc, hz, ht⟩⟩ := h
  · exact Or.inl ⟨List.eq_nil_of_length_eq_zero h3, rfl⟩
  · exact Or.inr ⟨g, cap, rfl, hbg, ltB hg, hn, hc⟩
theorem OwnT.form2 {w : World} {base : Nat} {v : Value} {l : List Tk} (h : OwnT w base v l) : ∃ a cap, v = .slice a l.length cap := by
  obtain ⟨h1, ⟨rfl, h3⟩ | ⟨g, cap, cur, rfl, hbg, hg, hn, hc, hz, ht⟩⟩ := h
  · exact ⟨none, 0, by rw [h3]⟩
  · exact ⟨some ⟨g, 0, none⟩, cap, rfl⟩
theorem OwnT.at {w : World} {base g n cap : Nat} {ts : List Tk} (h : OwnT w base (.slice (some ⟨g, 0, none⟩) n cap) ts) {j : Nat} {T : Tk} (hj : ts[j]? = some T) :
    w.cell? ⟨g, j * 4, none⟩ = some (.int .i64 (T.kind : Int)) ∧ w.cell? ⟨g, j * 4 + 1, none⟩ = some (.int .i64 (T.fr : Int)) ∧ w.cell? ⟨g, j * 4 + 2, none⟩ = some (.int .i64 (T.to : Int)) ∧ w.cell? ⟨g, j * 4 + 3, none⟩ = some (.string T.text) := by
  obtain ⟨h1, ⟨h2, _⟩ | ⟨g', cap', cur, h2, hbg, hg, hn, hc, hz, ht⟩⟩ := h
  · cases h2
  · cases h2
    have hjl : j < ts.length := by
      rcases Nat.lt_or_ge j ts.length with h | h
      · exact h
      · rw [List.getElem?_eq_none h] at hj; cases hj
    have key : ∀ i u, i < 4 → (tkC T)[i]? = some u → w.cell? ⟨g, j * 4 + i, none⟩ = some u := by
      intro i u hi hu
      refine cellB hg (j * 4 + i) ?_
      have h3 := flat_get ts j T i hj hi
      rw [← ht, List.getElem?_take_of_lt (by omega), Array.getElem?_toList] at h3
      rw [h3, hu]
    exact ⟨key 0 _ (by decide) rfl, key 1 _ (by decide) rfl, key 2 _ (by decide) rfl, key 3 _ (by decide) rfl⟩

end Go.Proofs.YtibopkodoidjoaaGreatDoor

/- Package tree: the parser's small functions. -/
namespace Go.Proofs.YtibopkodoidjoaaGreatDoor
open Go Go.RowKit

/-- The parser's block. -/
def PsB (s : ByteArray) (v : Value) (p : Nat) (b : Nat) (w : World) : Prop := w.heap[b]? = some (.cells #[.string s, v, .int .i64 (p : Int)] 75 (0, 0))
theorem PsB.next {s : ByteArray} {v : Value} {p b : Nat} {w w' : World} (h : PsB s v p b w) (hb : Below w.heap.size w w') : PsB s v p b w' := box_next h hb
theorem PsB.c0 {s : ByteArray} {v : Value} {p b : Nat} {w : World} (h : PsB s v p b w) : w.cell? ⟨b, 0, none⟩ = some (.string s) := cellB h 0 rfl
theorem PsB.c1 {s : ByteArray} {v : Value} {p b : Nat} {w : World} (h : PsB s v p b w) : w.cell? ⟨b, 1, none⟩ = some v := cellB h 1 rfl
theorem PsB.c2 {s : ByteArray} {v : Value} {p b : Nat} {w : World} (h : PsB s v p b w) : w.cell? ⟨b, 2, none⟩ = some (.int .i64 (p : Int)) := cellB h 2 rfl
/-- The next token's kind; its place. -/
def kindT (ts : List Tk) (p : Nat) : Nat := match ts[p]? with | some T => T.kind | none => 0
def placeT (s : ByteArray) (ts : List Tk) (p : Nat) : Nat := match ts[p]? with | some T => T.fr | none => s.size
/-- The parser gives up. -/
def GaveUp (A : Nat → Addr) (base k : Nat) (p : Nat) (e : Ending) (w' : World) : Prop := ∃ g, base ≤ g ∧ e = .panicked [{ v := .iface 71 (.agg #[.pointer (some ⟨g, 0, none⟩)]), recovered := false }] ∧ AtB (p : Int) (.iface 237 (.pointer (some (A k)))) g w'
set_option maxHeartbeats 1000000 in
theorem fail_calls (A : Nat → Addr) (k p : Nat) (w : World) : Calls Tryz.prog 32 #[.int .i64 (p : Int), .iface 237 (.pointer (some (A k)))] w fun e w' => GaveUp A w.heap.size k p e w' ∧ Below w.heap.size w w' := by
  go_enter Tryz.func32, Tryz.ntmps32
  (go_wp2_with fail; repeat (any_goals (go_quiet (fail); go_wp2_with fail)))
  exact ⟨rfl, ⟨w.heap.size, Nat.le_refl _, rfl, heap_alloc_new w _⟩, (by repeat (first | assumption | exact Below.refl _ _ | apply Below.drew | apply below_drewN | apply balloc | (refine Below.setCell ?_ (by first | omega | (simp <;> omega)) _)))⟩
set_option maxHeartbeats 1000000 in
set_option maxRecDepth 100000 in
theorem tnext_calls {base : Nat} {v : Value} {ts : List Tk} (s : ByteArray) (p b : Nat) (w : World) (hp : p ≤ ts.length) (hsc : PsB s v p b w) (ho : OwnT w base v ts) :
    Calls Tryz.prog 57 #[.pointer (some ⟨b, 0, none⟩)] w fun e w' => e = .returned (.int .i64 (kindT ts p : Int)) ∧ Below w.heap.size w w' := by
  have x1 := hsc.c1
  have x2 := hsc.c2
  have hbl := ltB hsc
  replace hsc := Lib.hid hsc
  by_cases h : p = ts.length
  · have hk : kindT ts p = 0 := by unfold kindT; rw [List.getElem?_eq_none (by omega)]
    rw [hk]
    obtain ⟨a, c, rfl⟩ := ho.form2
    replace ho := Lib.hid ho
    have he : ((p : Int) == (ts.length : Int)) = true := by simp; omega
    replace h := Lib.hid h
    replace hk := Lib.hid hk
    generalize ts.length = n at *
    go_enter Tryz.func57, Tryz.ntmps57
    (go_wp2_with fail; repeat (any_goals (go_quiet (fail); go_wp2_with fail)))
    go_ret
    exact ⟨rfl, (by repeat (first | assumption | exact Below.refl _ _ | apply Below.drew | apply below_drewN | apply balloc | (refine Below.setCell ?_ (by first | omega | (simp <;> omega)) _)))⟩
  · rcases ho.form with ⟨rfl, rfl⟩ | ⟨g, cap, rfl, hbg, hgl, hnl, hcm⟩
    · simp at hp h; omega
    have hT : ts[p]? = some (ts[p]'(by omega)) := List.getElem?_eq_getElem _
    have hk : kindT ts p = (ts[p]'(by omega)).kind := by unfold kindT; rw [hT]
    rw [hk]
    obtain ⟨y0, _, _, _⟩ := ho.at hT
    generalize ts[p]'(by omega) = T at *
    have he : ((p : Int) == (ts.length : Int)) = false := by simp; omega
    have hlt : (p : Int) < (ts.length : Int) := by omega
    unfold maxLen at hcm
    replace h := Lib.hid h
    replace hk := Lib.hid hk
    replace hT := Lib.hid hT
    replace ho := Lib.hid ho
    generalize ts.length = n at *
    go_enter Tryz.func57, Tryz.ntmps57
    (go_wp2_with fail; repeat (any_goals (go_quiet (fail); go_wp2_with fail)))
    go_ret
    exact ⟨rfl, (by repeat (first | assumption | exact Below.refl _ _ | apply Below.drew | apply below_drewN | apply balloc | (refine Below.setCell ?_ (by first | omega | (simp <;> omega)) _)))⟩
set_option maxHeartbeats 1000000 in
set_option maxRecDepth 100000 in
theorem tplace_calls {base : Nat} {v : Value} {ts : List Tk} (s : ByteArray) (p b : Nat) (w : World) (hp : p ≤ ts.length) (hsc : PsB s v p b w) (ho : OwnT w base v ts) :
    Calls Tryz.prog 33 #[.pointer (some ⟨b, 0, none⟩)] w fun e w' => e = .returned (.int .i64 (placeT s ts p : Int)) ∧ Below w.heap.size w w' := by
  have x0 := hsc.c0
  have x1 := hsc.c1
  have x2 := hsc.c2
  have hbl := ltB hsc
  replace hsc := Lib.hid hsc
  by_cases h : p = ts.length
  · have hk : placeT s ts p = s.size := by unfold placeT; rw [List.getElem?_eq_none (by omega)]
    rw [hk]
    obtain ⟨a, c, rfl⟩ := ho.form2
    replace ho := Lib.hid ho
    have he : ((p : Int) == (ts.length : Int)) = true := by simp; omega
    replace h := Lib.hid h
    replace hk := Lib.hid hk
    generalize ts.length = n at *
    go_enter Tryz.func33, Tryz.ntmps33
    (go_wp2_with fail; repeat (any_goals (go_quiet (fail); go_wp2_with fail)))
    go_ret
    exact ⟨rfl, (by repeat (first | assumption | exact Below.refl _ _ | apply Below.drew | apply below_drewN | apply balloc | (refine Below.setCell ?_ (by first | omega | (simp <;> omega)) _)))⟩
  · rcases ho.form with ⟨rfl, rfl⟩ | ⟨g, cap, rfl, hbg, hgl, hnl, hcm⟩
    · simp at hp h; omega
    have hT : ts[p]? = some (ts[p]'(by omega)) := List.getElem?_eq_getElem _
    have hk : placeT s ts p = (ts[p]'(by omega)).fr := by unfold placeT; rw [hT]
    rw [hk]
    obtain ⟨_, y1, _, _⟩ := ho.at hT
    generalize ts[p]'(by omega) = T at *
    have he : ((p : Int) == (ts.length : Int)) = false := by simp; omega
    have hlt : (p : Int) < (ts.length : Int) := by omega
    unfold maxLen at hcm
    replace h := Lib.hid h
    replace hk := Lib.hid hk
    replace hT := Lib.hid hT
    replace ho := Lib.hid ho
    generalize ts.length = n at *
    go_enter Tryz.func33, Tryz.ntmps33
    (go_wp2_with fail; repeat (any_goals (go_quiet (fail); go_wp2_with fail)))
    go_ret
    exact ⟨rfl, (by repeat (first | assumption | exact Below.refl _ _ | apply Below.drew | apply below_drewN | apply balloc | (refine Below.setCell ?_ (by first | omega | (simp <;> omega)) _)))⟩

end Go.Proofs.YtibopkodoidjoaaGreatDoor

/- Package tree: the parser as a plain function. -/
namespace Go.Proofs.YtibopkodoidjoaaGreatDoor
open Go Go.RowKit

/-- A node. -/
inductive Nd where
  | null (p : Nat)
  | flag (p : Nat) (b : Bool)
  | num (p : Nat) (t : ByteArray)
  | text (p : Nat) (t : ByteArray)
  | lst (p : Nat) (xs : List Nd)
  | obj (p : Nat) (xs : List (ByteArray × Nat × Nd))
/-- What a part of the parser answers: the thing and the place behind it, an error's number and place, or nothing yet. -/
inductive PR (α : Type) where
  | ok (x : α) (p : Nat)
  | err (k pl : Nat)
  | out
def textT (ts : List Tk) (p : Nat) : ByteArray := match ts[p]? with | some T => T.text | none => noS
def wordT (s : ByteArray) (ts : List Tk) (p : Nat) : ByteArray := match ts[p]? with | some T => s.extract T.fr T.to | none => noS
/-- Behind a member of a list or an object: it ends, or goes on. -/
def rest (s : ByteArray) (ts : List Tk) (stop p : Nat) : PR Bool := if kindT ts p = stop then .ok true (p + 1) else if kindT ts p = 11 then .ok false (p + 1) else .err 2 (placeT s ts p)
/-- Is a key among those? -/
def knows (seen : List ByteArray) (t : ByteArray) : Bool := seen.any fun u => decide (u = t)
mutual
def pV (s : ByteArray) (ts : List Tk) : Nat → Nat → Nat → PR Nd
  | 0, _, _ => .out
  | f + 1, deep, p =>
    if kindT ts p = 1 then .ok (.null (placeT s ts p)) (p + 1)
    else if kindT ts p = 2 then .ok (.flag (placeT s ts p) true) (p + 1)
    else if kindT ts p = 3 then .ok (.flag (placeT s ts p) false) (p + 1)
    else if kindT ts p = 4 then .ok (.num (placeT s ts p) (wordT s ts p)) (p + 1)
    else if kindT ts p = 5 then .ok (.text (placeT s ts p) (textT ts p)) (p + 1)
    else if kindT ts p = 8 then
      if deep = 64 then .err 3 (placeT s ts p)
      else match (if kindT ts (p + 1) = 9 then .ok [] (p + 2) else pI s ts f deep (p + 1)) with
        | .ok xs q => .ok (.lst (placeT s ts p) xs) q
        | .err k pl => .err k pl
        | .out => .out
    else if kindT ts p = 6 then
      if deep = 64 then .err 3 (placeT s ts p)
      else match (if kindT ts (p + 1) = 7 then .ok [] (p + 2) else pM s ts f deep [] (p + 1)) with
        | .ok xs q => .ok (.obj (placeT s ts p) xs) q
        | .err k pl => .err k pl
        | .out => .out
    else .err 2 (placeT s ts p)
def pI (s : ByteArray) (ts : List Tk) : Nat → Nat → Nat → PR (List Nd)
  | 0, _, _ => .out
  | f + 1, deep, p => match pV s ts f (deep + 1) p with
    | .ok x q => match rest s ts 9 q with
      | .ok true q' => .ok [x] q'
      | .ok false q' => match pI s ts f deep q' with
        | .ok xs q'' => .ok (x :: xs) q''
        | .err k pl => .err k pl
        | .out => .out
      | .err k pl => .err k pl
      | .out => .out
    | .err k pl => .err k pl
    | .out => .out
def pM (s : ByteArray) (ts : List Tk) : Nat → Nat → List ByteArray → Nat → PR (List (ByteArray × Nat × Nd))
  | 0, _, _, _ => .out
  | f + 1, deep, seen, p =>
    if kindT ts p = 5 then
      if knows seen (textT ts p) = true then .err 6 (placeT s ts p)
      else if kindT ts (p + 1) = 10 then
        match pV s ts f (deep + 1) (p + 2) with
        | .ok x q => match rest s ts 7 q with
          | .ok true q' => .ok [(textT ts p, placeT s ts p, x)] q'
          | .ok false q' => match pM s ts f deep (seen ++ [textT ts p]) q' with
            | .ok xs q'' => .ok ((textT ts p, placeT s ts p, x) :: xs) q''
            | .err k pl => .err k pl
            | .out => .out
          | .err k pl => .err k pl
          | .out => .out
        | .err k pl => .err k pl
        | .out => .out
      else .err 2 (placeT s ts (p + 1))
    else .err 2 (placeT s ts p)
end
theorem kindT_lt {ts : List Tk} {p : Nat} (h : kindT ts p ≠ 0) : p < ts.length := by
  rcases Nat.lt_or_ge p ts.length with h1 | h1
  · exact h1
  · exfalso
    apply h
    unfold kindT
    rw [List.getElem?_eq_none h1]
/-- A part goes on, and not behind the end. -/
def PR.fits {α : Type} (n p : Nat) : PR α → Prop
  | .ok _ q => p < q ∧ q ≤ n
  | .err k _ => k = 2 ∨ k = 3 ∨ k = 6
  | .out => False
theorem rest_fits (s : ByteArray) (ts : List Tk) (stop p : Nat) (h : stop ≠ 0) : (rest s ts stop p).fits ts.length p := by
  unfold rest
  split
  · have := kindT_lt (ts := ts) (p := p) (by omega)
    exact ⟨by omega, by omega⟩
  · split
    · have := kindT_lt (ts := ts) (p := p) (by omega)
      exact ⟨by omega, by omega⟩
    · exact Or.inl rfl
theorem p_fits (s : ByteArray) (ts : List Tk) : ∀ f,
    (∀ deep p, 2 * (ts.length - p) + 1 ≤ f → (pV s ts f deep p).fits ts.length p) ∧
    (∀ deep p, 2 * (ts.length - p) + 2 ≤ f → (pI s ts f deep p).fits ts.length p) ∧
    (∀ deep seen p, 2 * (ts.length - p) + 2 ≤ f → (pM s ts f deep seen p).fits ts.length p)
  | 0 => ⟨fun _ _ h => by omega, fun _ _ h => by omega, fun _ _ _ h => by omega⟩
  | f + 1 => by
    obtain ⟨iV, iI, iM⟩ := p_fits s ts f
    refine ⟨?_, ?_, ?_⟩
    · intro deep p hf
      rw [pV]
      by_cases k0 : kindT ts p = 0
      · simp only [k0]
        exact Or.inl rfl
      have hlt := kindT_lt k0
      have one : p < p + 1 ∧ p + 1 ≤ ts.length := ⟨by omega, by omega⟩
      split; · exact one
      split; · exact one
      split; · exact one
      split; · exact one
      split; · exact one
      split
      · split
        · exact Or.inr (Or.inl rfl)
        · by_cases h9 : kindT ts (p + 1) = 9
          · have := kindT_lt (ts := ts) (p := p + 1) (by omega)
            rw [if_pos h9]
            exact ⟨by omega, by omega⟩
          · rw [if_neg h9]
            have := iI deep (p + 1) (by omega)
            revert this
            cases pI s ts f deep (p + 1) with
            | ok xs q => rintro ⟨h1, h2⟩; exact ⟨by omega, h2⟩
            | err k pl => exact id
            | out => exact id
      · split
        · split
          · exact Or.inr (Or.inl rfl)
          · by_cases h9 : kindT ts (p + 1) = 7
            · have := kindT_lt (ts := ts) (p := p + 1) (by omega)
              rw [if_pos h9]
              exact ⟨by omega, by omega⟩
            · rw [if_neg h9]
              have := iM deep [] (p + 1) (by omega)
              revert this
              cases pM s ts f deep [] (p + 1) with
              | ok xs q => rintro ⟨h1, h2⟩; exact ⟨by omega, h2⟩
              | err k pl => exact id
              | out => exact id
        · exact Or.inl rfl
    · intro deep p hf
      rw [pI]
      have := iV (deep + 1) p (by omega)
      revert this
      cases pV s ts f (deep + 1) p with
      | err k pl => exact id
      | out => exact id
      | ok x q =>
        rintro ⟨h1, h2⟩
        have := rest_fits s ts 9 q (by decide)
        revert this
        show _ → PR.fits ts.length p (match rest s ts 9 q with | .ok true q' => _ | .ok false q' => _ | .err k pl => _ | .out => _)
        cases rest s ts 9 q with
        | err k pl => exact id
        | out => exact id
        | ok b q' =>
          rintro ⟨h3, h4⟩
          cases b with
          | true => exact ⟨by omega, h4⟩
          | false =>
            have := iI deep q' (by omega)
            revert this
            show _ → PR.fits ts.length p (match pI s ts f deep q' with | .ok xs q'' => _ | .err k pl => _ | .out => _)
            cases pI s ts f deep q' with
            | ok xs q'' => rintro ⟨h5, h6⟩; exact ⟨by omega, h6⟩
            | err k pl => exact id
            | out => exact id
    · intro deep seen p hf
      rw [pM]
      split
      · rename_i k5
        have hlt := kindT_lt (ts := ts) (p := p) (by omega)
        split
        · exact Or.inr (Or.inr rfl)
        · split
          · rename_i k10
            have hlt2 := kindT_lt (ts := ts) (p := p + 1) (by omega)
            have := iV (deep + 1) (p + 2) (by omega)
            revert this
            cases pV s ts f (deep + 1) (p + 2) with
            | err k pl => exact id
            | out => exact id
            | ok x q =>
              rintro ⟨h1, h2⟩
              have := rest_fits s ts 7 q (by decide)
              revert this
              show _ → PR.fits ts.length p (match rest s ts 7 q with | .ok true q' => _ | .ok false q' => _ | .err k pl => _ | .out => _)
              cases rest s ts 7 q with
              | err k pl => exact id
              | out => exact id
              | ok b q' =>
                rintro ⟨h3, h4⟩
                cases b with
                | true => exact ⟨by omega, h4⟩
                | false =>
                  have := iM deep (seen ++ [textT ts p]) q' (by omega)
                  revert this
                  show _ → PR.fits ts.length p (match pM s ts f deep (seen ++ [textT ts p]) q' with | .ok xs q'' => _ | .err k pl => _ | .out => _)
                  cases pM s ts f deep (seen ++ [textT ts p]) q' with
                  | ok xs q'' => rintro ⟨h5, h6⟩; exact ⟨by omega, h6⟩
                  | err k pl => exact id
                  | out => exact id
          · exact Or.inl rfl
      · exact Or.inl rfl
/-- The same, whatever the fuel. -/
def PR.goes {α : Type} (n p : Nat) : PR α → Prop
  | .ok _ q => p < q ∧ q ≤ n
  | .err k _ => k = 2 ∨ k = 3 ∨ k = 6
  | .out => True
theorem rest_goes (s : ByteArray) (ts : List Tk) (stop p : Nat) (h : stop ≠ 0) : (rest s ts stop p).goes ts.length p := by
  have := rest_fits s ts stop p h
  revert this
  cases rest s ts stop p with
  | ok b q => exact id
  | err k pl => exact id
  | out => exact fun h => h.elim
theorem p_goes (s : ByteArray) (ts : List Tk) : ∀ f,
    (∀ deep p, (pV s ts f deep p).goes ts.length p) ∧
    (∀ deep p, (pI s ts f deep p).goes ts.length p) ∧
    (∀ deep seen p, (pM s ts f deep seen p).goes ts.length p)
  | 0 => ⟨fun _ _ => by rw [pV]; trivial, fun _ _ => by rw [pI]; trivial, fun _ _ _ => by rw [pM]; trivial⟩
  | f + 1 => by
    obtain ⟨iV, iI, iM⟩ := p_goes s ts f
    refine ⟨?_, ?_, ?_⟩
    · intro deep p
      rw [pV]
      by_cases k0 : kindT ts p = 0
      · simp only [k0]
        exact Or.inl rfl
      have hlt := kindT_lt k0
      have one : p < p + 1 ∧ p + 1 ≤ ts.length := ⟨by omega, by omega⟩
      split; · exact one
      split; · exact one
      split; · exact one
      split; · exact one
      split; · exact one
      split
      · split
        · exact Or.inr (Or.inl rfl)
        · by_cases h9 : kindT ts (p + 1) = 9
          · have := kindT_lt (ts := ts) (p := p + 1) (by omega)
            rw [if_pos h9]
            exact ⟨by omega, by omega⟩
          · rw [if_neg h9]
            have := iI deep (p + 1)
            revert this
            cases pI s ts f deep (p + 1) with
            | ok xs q => rintro ⟨h1, h2⟩; exact ⟨by omega, h2⟩
            | err k pl => exact id
            | out => exact fun _ => trivial
      · split
        · split
          · exact Or.inr (Or.inl rfl)
          · by_cases h9 : kindT ts (p + 1) = 7
            · have := kindT_lt (ts := ts) (p := p + 1) (by omega)
              rw [if_pos h9]
              exact ⟨by omega, by omega⟩
            · rw [if_neg h9]
              have := iM deep [] (p + 1)
              revert this
              cases pM s ts f deep [] (p + 1) with
              | ok xs q => rintro ⟨h1, h2⟩; exact ⟨by omega, h2⟩
              | err k pl => exact id
              | out => exact fun _ => trivial
        · exact Or.inl rfl
    · intro deep p
      rw [pI]
      have := iV (deep + 1) p
      revert this
      cases pV s ts f (deep + 1) p with
      | err k pl => exact id
      | out => exact fun _ => trivial
      | ok x q =>
        rintro ⟨h1, h2⟩
        have := rest_fits s ts 9 q (by decide)
        revert this
        show _ → PR.goes ts.length p (match rest s ts 9 q with | .ok true q' => _ | .ok false q' => _ | .err k pl => _ | .out => _)
        cases rest s ts 9 q with
        | err k pl => exact id
        | out => exact fun _ => trivial
        | ok b q' =>
          rintro ⟨h3, h4⟩
          cases b with
          | true => exact ⟨by omega, h4⟩
          | false =>
            have := iI deep q'
            revert this
            show _ → PR.goes ts.length p (match pI s ts f deep q' with | .ok xs q'' => _ | .err k pl => _ | .out => _)
            cases pI s ts f deep q' with
            | ok xs q'' => rintro ⟨h5, h6⟩; exact ⟨by omega, h6⟩
            | err k pl => exact id
            | out => exact fun _ => trivial
    · intro deep seen p
      rw [pM]
      split
      · rename_i k5
        have hlt := kindT_lt (ts := ts) (p := p) (by omega)
        split
        · exact Or.inr (Or.inr rfl)
        · split
          · rename_i k10
            have hlt2 := kindT_lt (ts := ts) (p := p + 1) (by omega)
            have := iV (deep + 1) (p + 2)
            revert this
            cases pV s ts f (deep + 1) (p + 2) with
            | err k pl => exact id
            | out => exact fun _ => trivial
            | ok x q =>
              rintro ⟨h1, h2⟩
              have := rest_fits s ts 7 q (by decide)
              revert this
              show _ → PR.goes ts.length p (match rest s ts 7 q with | .ok true q' => _ | .ok false q' => _ | .err k pl => _ | .out => _)
              cases rest s ts 7 q with
              | err k pl => exact id
              | out => exact fun _ => trivial
              | ok b q' =>
                rintro ⟨h3, h4⟩
                cases b with
                | true => exact ⟨by omega, h4⟩
                | false =>
                  have := iM deep (seen ++ [textT ts p]) q'
                  revert this
                  show _ → PR.goes ts.length p (match pM s ts f deep (seen ++ [textT ts p]) q' with | .ok xs q'' => _ | .err k pl => _ | .out => _)
                  cases pM s ts f deep (seen ++ [textT ts p]) q' with
                  | ok xs q'' => rintro ⟨h5, h6⟩; exact ⟨by omega, h6⟩
                  | err k pl => exact id
                  | out => exact fun _ => trivial
          · exact Or.inl rfl
      · exact Or.inl rfl
/-- The whole parser, the tokens at hand. -/
def pP (s : ByteArray) (ts : List Tk) : PR Nd := match pV s ts (2 * ts.length + 1) 0 0 with
  | .ok x q => if q < ts.length then .err 2 (placeT s ts q) else .ok x q
  | .err k pl => .err k pl
  | .out => .out
theorem pV_fits (s : ByteArray) (ts : List Tk) : (pV s ts (2 * ts.length + 1) 0 0).fits ts.length 0 := (p_fits s ts _).1 0 0 (by omega)
theorem pP_fits (s : ByteArray) (ts : List Tk) : (pP s ts).fits ts.length 0 := by
  have := pV_fits s ts
  unfold pP
  revert this
  cases pV s ts (2 * ts.length + 1) 0 0 with
  | err k pl => exact id
  | out => exact id
  | ok x q =>
    intro h
    show PR.fits ts.length 0 (if q < ts.length then _ else _)
    split
    · exact Or.inl rfl
    · exact h

end Go.Proofs.YtibopkodoidjoaaGreatDoor
