/- Lemmas of the proof, put together: Scan9, Scan10, Utf, Loc, QuotePlain, Single, SRef7, Scan11, Scan12, Num, Tok, Tree1, TreeSpec, Tree2, Rd1, Tree3, Tree4. -/
import Derived.Test.YtibopkodoidjoaaGreatDoorM3
import Derived.Lib.BufferMore
import Derived.Maps.AppendAt
import Derived.Test.YtibopkodoidjoaaGreatDoorM1
import Derived.Test.YtibopkodoidjoaaGreatDoorM2
import Derived.Deep.DeepCutAuto
import Derived.Great.Walk
import Derived.Laws.Rows
import Derived.Laws.Tables
import Derived.Laws.CopyOwn
import Derived.RegionDies

/- Package scan: blanks. -/
namespace Go.Proofs.YtibopkodoidjoaaGreatDoor
open Go Go.RowKit

theorem grown_refl (w : World) (r : Option Nat) : w.grownBy w r := ⟨rfl, rfl, rfl, Nat.le_refl _, fun _ _ _ => rfl⟩
theorem grown_trans {a b c : World} {r : Option Nat} (h : a.grownBy b r) (k : b.grownBy c r) : a.grownBy c r :=
  ⟨k.os.trans h.os, k.tape.trans h.tape, k.output.trans h.output, Nat.le_trans h.size k.size, fun i hi hr => (k.block i (Nat.lt_of_lt_of_le hi h.size) hr).trans (h.block i hi hr)⟩
theorem grown_drew {a b : World} {r : Option Nat} (h : a.grownBy b r) : a.grownBy b.drew r := ⟨h.os, h.tape, h.output, h.size, h.block⟩
theorem grown_set (a : World) (b j : Nat) (v : Value) : a.grownBy (a.setCell ⟨b, j, none⟩ v) (some b) := by
  refine ⟨?_, ?_, ?_, ?_, ?_⟩
  · have := Below.setCell (B := 0) (Below.refl 0 a) (p := ⟨b, j, none⟩) (Nat.zero_le _) v; exact this.os
  · have := Below.setCell (B := 0) (Below.refl 0 a) (p := ⟨b, j, none⟩) (Nat.zero_le _) v; exact this.tape
  · have := Below.setCell (B := 0) (Below.refl 0 a) (p := ⟨b, j, none⟩) (Nat.zero_le _) v; exact this.output
  · have := Below.setCell (B := 0) (Below.refl 0 a) (p := ⟨b, j, none⟩) (Nat.zero_le _) v; exact this.size
  · intro k _ hr
    exact Below.heap_setCell _ _ _ _ (fun h => hr (by rw [h]))
theorem grown_below {a b : World} {r : Nat} {n : Nat} (h : a.grownBy b (some r)) (hn : n ≤ a.heap.size) (hr : n ≤ r) : Below n a b := Below.grown (Below.refl n a) h hn (fun k hk => by cases hk; exact hr)
theorem grown_of_below {a b : World} {r : Option Nat} (h : Below a.heap.size a b) : a.grownBy b r := ⟨h.os, h.tape, h.output, h.size, fun k hk _ => h.block k hk⟩
theorem ScB.set {s : ByteArray} {p q : Int} {b : Nat} {w : World} (h : ScB s p b w) : ScB s q b (w.setCell ⟨b, 1, none⟩ (.int .i64 q)) := by
  unfold ScB at h ⊢
  rw [Lib.heap_setCell_same (i := 1) h]
  rfl
theorem grown_drewN {a b : World} {r : Option Nat} (h : a.grownBy b r) (n : Nat) : a.grownBy (b.drewN n) r := ⟨h.os, h.tape, h.output, h.size, h.block⟩
theorem ScB.drewN {s : ByteArray} {p : Int} {b : Nat} {w : World} (h : ScB s p b w) (n : Nat) : ScB s p b (w.drewN n) := h
def blkI (c : Nat) : Int := Lib.indexByte [32, 9, 10, 13] c.toUInt8
theorem blkI_all : ∀ c, c < 256 → (if blankN c = true then 0 ≤ blkI c else blkI c < 0) := by decide +kernel
set_option maxHeartbeats 1000000 in
theorem blanks_calls (s : ByteArray) (p b : Nat) (w : World) (hs : s.size ≤ 140737488351232) (hp : p ≤ s.size) (hsc : ScB s (p : Int) b w) :
    Calls Tryz.prog 81 #[.pointer (some ⟨b, 0, none⟩)] w fun e w' => e = .returned (.tuple #[]) ∧ ScB s (blkAt s p : Nat) b w' ∧ w.grownBy w' (some b) := by
  obtain ⟨r, hr⟩ : ∃ r, blkAt s p = r := ⟨_, rfl⟩
  rw [hr]
  replace hr := Lib.hid hr
  go_enter Tryz.func81, Tryz.ntmps81
  (go_wp2_with fail; repeat (any_goals (go_quiet (fail); go_wp2_with fail)))
  go_loopg [] (s.size + 1 - p) (fun kq w' => ∃ k : Nat, k ≤ s.size ∧ Hid (blkAt s k = r) ∧ ScB s (k : Int) b w' ∧ Hid (w.grownBy w' (some b)) ∧ kq + k = s.size + 1)
  case atStart => exact ⟨p, hp, hr, hsc, Lib.hid (grown_refl _ _), by omega⟩
  case round =>
    obtain ⟨k, hk, hr2, hsc2, hg, hq⟩ := hrel
    have hx := byte_at s k
    have he := Lib.hid (blkAt_eq s k)
    have x0 := hsc2.s
    have x1 := hsc2.at
    have f1 := freeB hsc2 1
    replace hsc2 := Lib.hid hsc2
    have hk' : (k : Int) ≤ (s.size : Int) := by omega
    have hs' : (s.size : Int) ≤ 140737488351232 := by omega
    by_cases hlt : k < s.size
    · have hlt' : (k : Int) < (s.size : Int) := by omega
      have I : ∀ w, Calls Tryz.prog 96 #[.string ⟨#[32, 9, 10, 13]⟩, .int .u8 (bAt s k : Int)] w fun e w' => e = .returned (.int .i64 (blkI (bAt s k))) ∧ w' = w := fun w => Tryz.strings_IndexByte ⟨#[32, 9, 10, 13]⟩ _ w
      have hi := blkI_all (bAt s k) (bAt_lt s k)
      cases hb : blankN (bAt s k) with
      | true =>
        rw [if_pos hb] at hi
        replace hb := Lib.hid hb
        generalize blkI (bAt s k) = d at *
        generalize bAt s k = c at *
        replace I := Lib.hid I
        go_wp2_with fail
        go_quiet (exact ((I.out _).mono (by rintro e w1 ⟨rfl, rfl⟩; exact ⟨rfl, _, rfl⟩)))
        go_wp2_with fail
        go_roundg (s.size - k)
        case measure => omega
        case rel => exact ⟨k + 1, by omega, Lib.hid (by rw [← hr2.out, he.out, if_pos ⟨hlt, hb.out⟩]), (show ((k : Int) + 1) = ((k + 1 : Nat) : Int) by omega) ▸ (ScB.drewN hsc2.out nq).set, Lib.hid (grown_trans (grown_drewN hg.out nq) (grown_set _ _ _ _)), by omega⟩
      | false =>
        rw [if_neg (by rw [hb]; exact Bool.false_ne_true)] at hi
        replace hb := Lib.hid hb
        generalize blkI (bAt s k) = d at *
        generalize bAt s k = c at *
        replace I := Lib.hid I
        go_wp2_with fail
        go_quiet (exact ((I.out _).mono (by rintro e w1 ⟨rfl, rfl⟩; exact ⟨rfl, _, rfl⟩)))
        go_wp2_with fail
        go_end0
        exact ⟨rfl, by rw [show k = r by rw [← hr2.out, he.out, if_neg (fun h => by rw [hb.out] at h; exact absurd h.2 Bool.false_ne_true)]] at hsc2; exact ScB.drewN hsc2.out nq, grown_drewN hg.out nq⟩
    · have hge : ¬ ((k : Int) < (s.size : Int)) := by omega
      (go_wp2_with fail; repeat (any_goals (go_quiet (fail); go_wp2_with fail)))
      go_end0
      exact ⟨rfl, by rw [show k = r by rw [← hr2.out, he.out, if_neg (fun h => hlt h.1)]] at hsc2; exact hsc2.out, grown_drewN hg.out _⟩

end Go.Proofs.YtibopkodoidjoaaGreatDoor

/- Package scan: the closure of Scan. -/
namespace Go.Proofs.YtibopkodoidjoaaGreatDoor
open Go Go.RowKit

def tkC (t : Tk) : List Value := [.int .i64 (t.kind : Int), .int .i64 (t.fr : Int), .int .i64 (t.to : Int), .string t.text]
theorem infoTk : (Tryz.prog.info? 59).map (fun i => (i.zero, i.size, i.bytes)) = some (some (.agg #[.int .i64 0, .int .i64 0, .int .i64 0, .string ⟨#[]⟩]), 4, 40) := by kernel_rfl
/-- All blocks but c and o are as they were. -/
structure Keep2 (c : Nat) (o : Option Nat) (w w' : World) : Prop where
  os : w'.os = w.os
  tape : w'.tape = w.tape
  output : w'.output = w.output
  size : w.heap.size ≤ w'.heap.size
  block : ∀ k, k < w.heap.size → k ≠ c → some k ≠ o → w'.heap[k]? = w.heap[k]?
set_option maxHeartbeats 1000000 in
set_option maxRecDepth 100000 in
theorem yield_calls (t : Tk) (c base n : Nat) (xs : List Value) (v : Value) (w : World) (hc : w.heap[c]? = some (.cells #[v] 49 (0, 0))) (ho : w.ownsRow base 59 4 v n xs) (hbase : base ≤ w.heap.size) (hcb : c < base) (hn : n + 1 ≤ 3518437208883) :
    Calls Tryz.prog 53 #[tkV t, .pointer (some ⟨c, 0, none⟩)] w fun e w' => e = .returned (.bool true) ∧ ∃ v', w'.heap[c]? = some (.cells #[v'] 49 (0, 0)) ∧ w'.ownsRow base 59 4 v' (n + 1) (xs ++ tkC t) ∧
      (v'.ownBlock = v.ownBlock ∨ ∃ g, v'.ownBlock = some g ∧ w.heap.size ≤ g) ∧ Keep2 c v.ownBlock w w' := by
  obtain ⟨i0, hi, hi2⟩ := Option.map_eq_some_iff.1 infoTk
  simp only [Prod.mk.injEq] at hi2
  obtain ⟨hz0, hz1, hz2⟩ := hi2
  replace hi := Lib.hid hi
  replace hz0 := Lib.hid hz0
  replace hz1 := Lib.hid hz1
  replace hz2 := Lib.hid hz2
  have x0 : w.cell? ⟨c, 0, none⟩ = some v := cellB hc 0 rfl
  have f0 := freeB hc 0
  have hcl := ltB hc
  replace hc := Lib.hid hc
  replace ho := Lib.hid ho
  replace hn := Lib.hid hn
  unfold tkV tkC
  obtain ⟨tk, tf, tt, tx⟩ := t
  simp only
  have hcne : c ≠ w.heap.size := by omega
  generalize (tk : Int) = k1
  generalize (tf : Int) = k2
  generalize (tt : Int) = k3
  go_enter Tryz.func53, Tryz.ntmps53
  go_wp2_with (at_builtin; refine wpList_append_own_at _ rfl _ _ 49 rfl base 59 i0 (.agg #[.int .i64 0, .int .i64 0, .int .i64 0, .string ⟨#[]⟩]) 4 40 Tryz.underlying49 hi.out hz0.out hz1.out hz2.out rfl (by decide) _ _ _ rfl (own_next ho.out ?c0) ⟨w.heap.size + 1, 0, none⟩ 1 1 [.int .i64 k1, .int .i64 k2, .int .i64 k3, .string tx] rfl rfl ?c1 ?c2 ?c3 ?c4 ?c5 ?_)
  case c0 => exact (by repeat (first | assumption | exact Below.refl _ _ | apply Below.drew | apply below_drewN | apply balloc | (refine Below.setCell ?_ (by first | omega | (simp <;> omega)) _)))
  case c1 =>
    intro j u hj
    match j, hj with
    | 0, hj => simp at hj; subst hj; simp [Addr.add]
    | 1, hj => simp at hj; subst hj; simp [Addr.add]
    | 2, hj => simp at hj; subst hj; simp [Addr.add]
    | 3, hj => simp at hj; subst hj; simp [Addr.add]
  case c2 => intro u hu; simp at hu; rcases hu with rfl | rfl | rfl | rfl <;> rfl
  case c3 => have := hn.out; unfold maxLen; omega
  case c4 => have := hn.out; omega
  case c5 => simp; omega
  intro v' w2 ho2 hg _ hown
  have hlt := ho.out.lt
  obtain ⟨g', cap', rfl⟩ : ∃ g cap, v' = .slice (some ⟨g, 0, none⟩) (n + 1) cap := by
    rcases ho2.2 with ⟨_, h⟩ | ⟨g, cap, _, rfl, _⟩
    · omega
    · exact ⟨g, cap, rfl⟩
  have hlt2 := (ho2.lt g' rfl).1
  have hgc : w2.heap[c]? = some (.cells #[v] 49 (0, 0)) := by
    rw [hg.block c (by simp; omega) (fun h => by have := hlt c h.symm; omega)]
    rw [Below.heap_alloc _ _ _ (by simp; omega), Below.heap_alloc _ _ _ (by omega)]
    exact hc.out
  have y0 : w2.cell? ⟨c, 0, none⟩ = some v := cellB hgc 0 rfl
  have g0 := freeB hgc 0
  replace hgc := Lib.hid hgc
  replace hg := Lib.hid hg
  replace hown := Lib.hid hown
  replace ho2 := Lib.hid ho2
  clear x0 f0
  (go_wp2_with fail; repeat (any_goals (go_quiet (fail); go_wp2_with fail)))
  go_ret
  have h1 : w.heap.size ≤ w2.heap.size := by have := hg.out.size; simp at this; omega
  refine ⟨rfl, .slice (some ⟨g', 0, none⟩) (n + 1) cap', ?_, ho2.out.kept (grown_set _ _ _ _) (Or.inr (by show some g' ≠ some c; intro h; cases h; omega)), ?_, ?_⟩
  · rw [Lib.heap_setCell_same (i := 0) hgc.out]; rfl
  · rcases hown.out with h | h
    · exact Or.inl h
    · exact Or.inr ⟨_, h, by first | omega | (simp; omega)⟩
  · have hs := grown_set w2 c 0 (.slice (some ⟨g', 0, none⟩) (n + 1) cap')
    have hg := hg.out
    refine ⟨hs.os.trans hg.os, hs.tape.trans hg.tape, hs.output.trans hg.output, Nat.le_trans h1 hs.size, fun k hk hkc hko => ?_⟩
    rw [hs.block k (by omega) (fun h => hkc (by cases h; rfl)), hg.block k (by simp; omega) hko]
    rw [Below.heap_alloc _ _ _ (by simp; omega), Below.heap_alloc _ _ _ (by omega)]

end Go.Proofs.YtibopkodoidjoaaGreatDoor

/- Plain laws: a text is UTF-8 just if its bytes are the encodings of scalars. No program in sight. -/
namespace Go.Proofs.YtibopkodoidjoaaGreatDoor
open Go Go.RowKit

/-- The bytes from i on, up to j. -/
def bs (s : ByteArray) (i j : Nat) : List Nat := (List.range (j - i)).map fun k => bAt s (i + k)
/-- The bytes are the encodings of scalars. -/
def VL (l : List Nat) : Prop := ∃ rs : List Nat, (∀ r ∈ rs, scalarN r = true) ∧ l = rs.flatMap encN
theorem VL.nil : VL [] := ⟨[], by simp, rfl⟩
theorem VL.append {l m : List Nat} (h1 : VL l) (h2 : VL m) : VL (l ++ m) := by
  obtain ⟨a, ha, rfl⟩ := h1
  obtain ⟨b, hb, rfl⟩ := h2
  refine ⟨a ++ b, fun r hr => ?_, by rw [List.flatMap_append]⟩
  rcases List.mem_append.1 hr with h | h
  · exact ha r h
  · exact hb r h
theorem VL.enc {r : Nat} (h : scalarN r = true) : VL (encN r) := ⟨[r], by simpa using h, by simp⟩
theorem VL.one {c : Nat} (h : c < 128) : VL [c] := by
  have := VL.enc (r := c) (scalarN_iff.2 (by omega))
  unfold encN at this
  rwa [if_pos h] at this
theorem utfE_brk (s : ByteArray) : utfE s = 0 ↔ brkAt s 0 = s.size := by
  have := brkAt_le s
  unfold utfE
  split <;> omega
/-- Bytes of a list. -/
def nthN (l : List UInt8) (k : Nat) : Nat := ((l[k]?).map UInt8.toNat).getD 0
end Go.Proofs.YtibopkodoidjoaaGreatDoor

/- Plain laws: a token depends on its own bytes alone (a number on the byte behind it too); what a scan answers, as a chain. No program in sight. -/
namespace Go.Proofs.YtibopkodoidjoaaGreatDoor
open Go Go.RowKit

/-- n bytes of t at k are those of s at i. -/
def Agr (s t : ByteArray) (i k n : Nat) : Prop := ∀ j, j < n → bAt t (k + j) = bAt s (i + j)
/-- No number goes on with this byte. -/
def stopB (c : Nat) : Prop := isD c = false ∧ c ≠ 46 ∧ c ≠ 101 ∧ c ≠ 69
structure Loc (s t : ByteArray) (i k n : Nat) : Prop where
  ag : Agr s t i k n
  nx : bAt t (k + n) = bAt s (i + n) ∨ stopB (bAt t (k + n))
theorem Agr.sub {s t : ByteArray} {i k n : Nat} (h : Agr s t i k n) (a : Nat) {m : Nat} (hm : a + m ≤ n) : Agr s t (i + a) (k + a) m := fun j hj => by
  have := h (a + j) (by omega)
  rw [Nat.add_assoc, Nat.add_assoc]; exact this
/-! ### Chains -/
/-- Blanks alone from p to k. -/
def Blk (t : ByteArray) (p k : Nat) : Prop := ∀ j, p ≤ j → j < k → blankN (bAt t j) = true
/-- From p on, t is these tokens with blanks between. -/
def Chain (t : ByteArray) : Nat → List Tk → Prop
  | p, [] => p ≤ t.size ∧ Blk t p t.size
  | p, T :: r => p ≤ T.fr ∧ T.fr < t.size ∧ Blk t p T.fr ∧ oneAt t T.fr = (0, 0, T) ∧ Chain t T.to r
theorem blk_at {t : ByteArray} {k : Nat} : ∀ {n p : Nat}, k - p ≤ n → p ≤ k → k ≤ t.size → Blk t p k → (k < t.size → blankN (bAt t k) = false) → blkAt t p = k
  | 0, p, h1, h2, h3, hb, hk => by
    obtain rfl : p = k := by omega
    rw [blkAt_eq]
    by_cases h : p < t.size
    · rw [hk h]; simp
    · rw [if_neg (fun hx => h hx.1)]
  | n + 1, p, h1, h2, h3, hb, hk => by
    by_cases he : p = k
    · subst he
      rw [blkAt_eq]
      by_cases h : p < t.size
      · rw [hk h]; simp
      · rw [if_neg (fun hx => h hx.1)]
    · rw [blkAt_eq, if_pos ⟨by omega, hb p (Nat.le_refl _) (by omega)⟩]
      exact blk_at (n := n) (by omega) (by omega) h3 (fun j hj hj2 => hb j (by omega) hj2) hk
theorem blk_run (t : ByteArray) : ∀ (n p : Nat), t.size - p ≤ n → Blk t p (blkAt t p)
  | 0, p, h1 => by
    rw [blkAt_eq, if_neg (by omega)]
    intro j h2 h3; omega
  | n + 1, p, h1 => by
    rw [blkAt_eq]
    by_cases h : p < t.size ∧ blankN (bAt t p) = true
    · rw [if_pos h]
      intro j h2 h3
      by_cases hj : j = p
      · rw [hj]; exact h.2
      · exact blk_run t n (p + 1) (by omega) j (by omega) h3
    · rw [if_neg h]
      intro j h2 h3; omega
theorem one_fr {s : ByteArray} {i : Nat} (hi : i < s.size) (hb : brkAt s i = s.size) {T : Tk} (h : oneAt s i = (0, 0, T)) : T.fr = i ∧ i < T.to ∧ T.to ≤ s.size ∧ brkAt s T.to = s.size ∧ T.text.size ≤ T.to - i ∧ 1 ≤ T.kind ∧ T.kind ≤ 11 := by
  have := oneAt_ok s i hi hb (by rw [h])
  rw [h] at this
  exact this
theorem oneAt_form (s : ByteArray) (i : Nat) (h : (oneAt s i).1 = 0) : oneAt s i = (0, 0, (oneAt s i).2.2) := by
  have key : ∀ O : Nat × Nat × Tk, (O.1 = 0 → O.2.1 = 0) → O.1 = 0 → O = (0, 0, O.2.2) := by
    rintro ⟨a, b, c⟩ h1 h2
    simp only at h1 h2
    rw [h2, h1 h2]
  refine key _ ?_ h
  unfold oneAt
  simp only
  repeat' split
  all_goals simp_all
theorem one_notblank {s : ByteArray} {i : Nat} (h : (oneAt s i).1 = 0) : blankN (bAt s i) = false := by
  cases hb : blankN (bAt s i) with
  | false => rfl
  | true =>
    exfalso
    have hc : bAt s i = 32 ∨ bAt s i = 9 ∨ bAt s i = 10 ∨ bAt s i = 13 := by
      simp only [blankN, Bool.or_eq_true, beq_iff_eq] at hb; omega
    unfold oneAt at h
    rcases hc with e | e | e | e <;> (rw [e] at h; simp [signK, isD] at h)
theorem scan_chain {s : ByteArray} : ∀ (ts : List Tk) (p : Nat), p ≤ s.size → brkAt s p = s.size → (scanAt s p = (ts, 0, 0) ↔ Chain s p ts)
  | [], p, hp, hb => by
    have hl := blkAt_low s p hp
    rw [scan_step s p hp hb]
    constructor
    · intro h
      by_cases hlt : blkAt s p < s.size
      · rw [if_pos hlt] at h
        by_cases ho : (oneAt s (blkAt s p)).1 = 0
        · rw [if_pos ho] at h; simp at h
        · rw [if_neg ho] at h
          simp only [Prod.mk.injEq] at h
          exact absurd h.2.1 ho
      · refine ⟨hp, ?_⟩
        have := blk_run s _ p (Nat.le_refl _)
        rw [show blkAt s p = s.size by have := hl.2.1; omega] at this
        exact this
    · rintro ⟨_, h⟩
      have := blk_at (n := s.size - p) (by omega) hp (Nat.le_refl _) h (fun h => by omega)
      rw [this, if_neg (by omega)]
  | T :: ts, p, hp, hb => by
    have hl := blkAt_low s p hp
    rw [scan_step s p hp hb]
    constructor
    · intro h
      by_cases hlt : blkAt s p < s.size
      · rw [if_pos hlt] at h
        by_cases ho : (oneAt s (blkAt s p)).1 = 0
        · rw [if_pos ho] at h
          have hbb := hl.brk hb
          have hform := oneAt_form s _ ho
          have hfr := one_fr hlt hbb hform
          simp only [Prod.mk.injEq, List.cons.injEq] at h
          obtain ⟨⟨rfl, h1⟩, h2⟩ := h
          have h3 : scanAt s (oneAt s (blkAt s p)).2.2.to = (ts, 0, 0) := by
            rw [← h1, show ((0, 0) : Nat × Nat) = (scanAt s (oneAt s (blkAt s p)).2.2.to).2 from h2.symm]
          refine ⟨by rw [hfr.1]; exact hl.1, by rw [hfr.1]; exact hlt, by rw [hfr.1]; exact blk_run s _ p (Nat.le_refl _), by rw [hfr.1]; exact hform, ?_⟩
          exact (scan_chain ts _ hfr.2.2.1 hfr.2.2.2.1).1 h3
        · rw [if_neg ho] at h; simp at h
      · rw [if_neg hlt] at h; simp at h
    · rintro ⟨h1, h2, h3, h4, h5⟩
      have hk := one_notblank (s := s) (i := T.fr) (by rw [h4])
      have hbk := blk_at (n := T.fr - p) (by omega) h1 (by omega) h3 (fun _ => hk)
      have hbb := hl.brk hb
      rw [hbk] at hbb ⊢
      have hfr := one_fr h2 hbb h4
      rw [if_pos h2, h4, if_pos rfl]
      simp only
      rw [(scan_chain ts _ hfr.2.2.1 hfr.2.2.2.1).2 h5]

end Go.Proofs.YtibopkodoidjoaaGreatDoor

/- Plain laws: a text quoted, scanned, is that text; numbers' decimal digits, scanned. No program in sight. -/
namespace Go.Proofs.YtibopkodoidjoaaGreatDoor
open Go Go.RowKit

def hexL : List UInt8 := [48, 49, 50, 51, 52, 53, 54, 55, 56, 57, 97, 98, 99, 100, 101, 102]
/-- How a byte stands within quotes. -/
def escB (b : UInt8) : List UInt8 := if b = 34 ∨ b = 92 then [92, b] else if b.toNat < 32 then [92, 117, 48, 48, hexL.getD (b.toNat / 16) 0, hexL.getD (b.toNat % 16) 0] else [b]
def quoteL (l : List UInt8) : List UInt8 := 34 :: (l.flatMap escB ++ [34])
def quoteS (s : ByteArray) : ByteArray := ⟨(quoteL s.data.toList).toArray⟩
end Go.Proofs.YtibopkodoidjoaaGreatDoor

/- Plain laws: a text that is one token; what a scan's list holds. No program in sight. -/
namespace Go.Proofs.YtibopkodoidjoaaGreatDoor
open Go Go.RowKit

/-- A text that is just one token of a kind. -/
def single (s : ByteArray) (k : Nat) (ts : List Tk) : Bool := match ts with | [T] => T.kind == k && (T.fr == 0 && T.to == s.size) | _ => false
def hasE (s : ByteArray) : Bool := s.data.toList.any fun c => c == 46 || c == 101 || c == 69
/-- The text that JSON tells; its place and the error's number (place none: no place). -/
def unqS (s : ByteArray) : ByteArray × Option Nat × Nat :=
  if (someS s).2.1 = 0 then (if single s 5 (someS s).1 = true then ((((someS s).1.head?).map (·.text)).getD noS, some 0, 0) else (noS, none, 5)) else (noS, some (someS s).2.2, (someS s).2.1)
/-- The tokens of a text, in their places. -/
theorem some_chain {s : ByteArray} (h : (someS s).2.1 = 0) : utfE s = 0 ∧ Chain s 0 (someS s).1 ∧ someS s = ((someS s).1, 0, 0) := by
  by_cases hu : utfE s = 0
  · have hb := (utfE_brk _).1 hu
    have e := someS_eq s
    rw [if_pos hu] at e
    have h2 : someS s = ((someS s).1, 0, 0) := by
      have key : ∀ n i, s.size - i ≤ n → i ≤ s.size → brkAt s i = s.size → (scanAt s i).2.1 = 0 → (scanAt s i).2.2 = 0 := by
        intro n
        induction n with
        | zero =>
          intro i h1 h2 h3 h4
          rw [scanAt_eq s i h3, if_neg (by omega)]
        | succ n ih =>
          intro i h1 h2 h3 h4
          rw [scanAt_eq s i h3] at h4 ⊢
          by_cases hi : i < s.size
          · rw [if_pos hi] at h4 ⊢
            by_cases hbl : blankN (bAt s i) = true
            · rw [if_pos hbl] at h4 ⊢
              exact ih _ (by omega) (by omega) (brk_ascii h3 hi (blank_ascii hbl).2) h4
            rw [if_neg hbl] at h4 ⊢
            by_cases ho : (oneAt s i).1 = 0
            · rw [if_pos ho] at h4 ⊢
              have h5 := oneAt_ok s i hi h3 ho
              exact ih _ (by omega) h5.2.2.1 h5.2.2.2.1 h4
            · rw [if_neg ho] at h4
              exact absurd h4 ho
          · rw [if_neg hi]
      have h3 := key _ 0 (Nat.le_refl _) (Nat.zero_le _) hb (by rw [← e]; exact h)
      rw [← e] at h3
      have : ∀ R : List Tk × Nat × Nat, R.2.1 = 0 → R.2.2 = 0 → R = (R.1, 0, 0) := by
        rintro ⟨a, b, c⟩ h1 h2
        simp only at h1 h2
        rw [h1, h2]
      exact this _ h h3
    refine ⟨hu, (scan_chain _ 0 (Nat.zero_le _) hb).1 ?_, h2⟩
    rw [← e]; exact h2
  · rw [someS_eq, if_neg hu] at h; simp at h
/-- Tokens rise. -/
theorem chain_bd {s : ByteArray} : ∀ (ts : List Tk) (p : Nat), brkAt s p = s.size → p ≤ s.size → Chain s p ts → ∀ T ∈ ts, p ≤ T.fr ∧ T.fr < T.to ∧ T.to ≤ s.size ∧ brkAt s T.fr = s.size ∧ brkAt s T.to = s.size ∧ oneAt s T.fr = (0, 0, T)
  | [], _, _, _, _, T, hT => by cases hT
  | T' :: ts, p, hb, hp, ⟨h1, h2, h3, h4, h5⟩, T, hT => by
    have hbb : brkAt s T'.fr = s.size := by
      refine Low.brk (i := p) ⟨h1, by omega, fun k hk1 hk2 => (blank_ascii (h3 k hk1 hk2)).2⟩ hb
    have hfr := one_fr h2 hbb h4
    rcases List.mem_cons.1 hT with rfl | hT
    · exact ⟨h1, hfr.2.1, hfr.2.2.1, hbb, hfr.2.2.2.1, h4⟩
    · have := chain_bd ts T'.to hfr.2.2.2.1 hfr.2.2.1 h5 T hT
      exact ⟨by omega, this.2⟩
theorem chain_len {s : ByteArray} : ∀ (ts : List Tk) (p : Nat), brkAt s p = s.size → p ≤ s.size → Chain s p ts → ts.length ≤ s.size - p
  | [], _, _, _, _ => Nat.zero_le _
  | T :: r, p, hb, hp, ⟨h1, h2, h3, h4, h5⟩ => by
    have hbb : brkAt s T.fr = s.size := Low.brk (i := p) ⟨h1, by omega, fun k hk1 hk2 => (blank_ascii (h3 k hk1 hk2)).2⟩ hb
    have hfr := one_fr h2 hbb h4
    have := chain_len r T.to hfr.2.2.2.1 hfr.2.2.1 h5
    rw [List.length_cons]
    omega

end Go.Proofs.YtibopkodoidjoaaGreatDoor

/- The reference of chapter 17: Some, Scan. -/
namespace Go.Proofs.YtibopkodoidjoaaGreatDoor
open Go Go.RowKit

/-- v is a list of tokens of the call's own. -/
def OwnT (w : World) (base : Nat) (v : Value) (ts : List Tk) : Prop := w.ownsRow base 59 4 v ts.length (ts.flatMap tkC)
theorem OwnT.nil (w : World) (base : Nat) : OwnT w base (.slice none 0 0) [] := World.ownsRow_nil _ _ _ _
theorem OwnT.next {w w' : World} {base : Nat} {v : Value} {ts : List Tk} (h : OwnT w base v ts) (hb : Below w.heap.size w w') : OwnT w' base v ts := own_next h hb
theorem OwnT.lt {w : World} {base : Nat} {v : Value} {ts : List Tk} (h : OwnT w base v ts) : ∀ k, v.ownBlock = some k → base ≤ k := fun k hk => (World.ownsRow.lt h k hk).1
theorem OwnT.lt_size {w : World} {base : Nat} {v : Value} {ts : List Tk} (h : OwnT w base v ts) : ∀ k, v.ownBlock = some k → k < w.heap.size := fun k hk => (World.ownsRow.lt h k hk).2
theorem below_ownT {w w1 w2 : World} {base : Nat} {v : Value} {ts : List Tk} (h1 : Below base w w1) (ho : OwnT w1 base v ts) (hg : w1.grownBy w2 v.ownBlock) (hb : base ≤ w1.heap.size) : Below base w w2 := h1.grown hg hb (fun k hk => ho.lt k hk)
theorem heap_new1 (w : World) (o o' : Obj) : ((w.alloc o).alloc o').heap[w.heap.size + 1]? = some o' := by
  have := heap_alloc_new (w.alloc o) o'
  rw [World.size_alloc] at this
  exact this
section
variable {ops : Array Oper} {rest : List Oper} {o : Oper} {a : Act} {Q : Exit → Act → World → Prop} {w : World}
/-- append(out, t) of a token. -/
theorem app_tk (hgd : o.guard = none) (sl x : Operand) (ho : o.op = .call { callee := .builtin .append, args := #[sl, x], argTypes := #[49, 49] }) (base : Nat) (v : Value) (ts : List Tk) (hs : a.eval sl = v) (hown : OwnT w base v ts)
    (g c : Nat) (cs : Array Value) (t : TypeId) (fr : Nat × Nat) (T : Tk) (hx : a.eval x = .slice (some ⟨g, 0, none⟩) 1 c) (hg : w.heap[g]? = some (.cells cs t fr)) (hcs : cs = (tkC T).toArray)
    (hlen : ts.length + 1 ≤ 3518437208883) (hbase : base ≤ w.heap.size)
    (h : ∀ v' w', OwnT w' base v' (ts ++ [T]) → w.grownBy w' v.ownBlock → wpList Tryz.prog ops Q rest (a.put o.dst v') w') : wpList Tryz.prog ops Q (o :: rest) a w := by
  obtain ⟨i0, hi, hi2⟩ := Option.map_eq_some_iff.1 infoTk
  simp only [Prod.mk.injEq] at hi2
  refine wpList_append_own _ hgd sl x 49 ho base 59 i0 (.agg #[.int .i64 0, .int .i64 0, .int .i64 0, .string ⟨#[]⟩]) 4 40 Tryz.underlying49 hi hi2.1 hi2.2.1 hi2.2.2 rfl (by decide) v ts.length (ts.flatMap tkC) hs hown ⟨g, 0, none⟩ 1 c (tkC T) hx rfl ?_ ?_ (by unfold maxLen; omega) (by omega) hbase ?_
  · intro j u hj
    have : (⟨g, 0, none⟩ : Addr).add j = ⟨g, j, none⟩ := by simp only [Addr.add, Nat.zero_add]; split <;> simp_all
    rw [this]
    refine cellB hg j ?_
    rw [hcs, List.getElem?_toArray]
    exact hj
  · intro u hu
    unfold tkC at hu
    simp at hu
    rcases hu with rfl | rfl | rfl | rfl <;> rfl
  · intro v' w' h1 h2 _
    refine h v' w' ?_ h2
    unfold OwnT
    rw [List.length_append, List.length_singleton, List.flatMap_append]
    simpa using h1
end
theorem rOne_calls2 (s : ByteArray) (i : Nat) (w : World) (hs : s.size ≤ 35184372088830) (hi : i < s.size) (R : Value) (hR : rOneV (oneAt s i) = R) :
    Calls Tryz.prog 50 #[.string s, .int .i64 (i : Int)] w fun e w' => e = .returned R ∧ Below w.heap.size w w' := by rw [← hR]; exact rOne_calls s i w hs hi
theorem rBlank_calls2 (c : Nat) (b : Bool) (w : World) (h : blankN c = b) : Calls Tryz.prog 49 #[.int .u8 (c : Int)] w fun e w' => e = .returned (.bool b) ∧ w = w' := by rw [← h]; exact (rBlank_calls c w).mono fun _ _ ⟨h, hw⟩ => ⟨h, hw.symm⟩
/-- What Some answers. -/
def rSomeR (base : Nat) (R : List Tk × Nat × Nat) (e : Ending) (w' : World) : Prop := ∃ v, e = .returned (.tuple #[v, .int .i64 (R.2.2 : Int), .int .i64 (R.2.1 : Int)]) ∧ OwnT w' base v R.1
theorem rSomeR_mk {base : Nat} {R : List Tk × Nat × Nat} {w' : World} {v : Value} {ts : List Tk} {e0 p : Nat} (h : R = (ts, e0, p)) (ho : OwnT w' base v ts) : rSomeR base R (.returned (.tuple #[v, .int .i64 (p : Int), .int .i64 (e0 : Int)])) w' := by
  subst h; exact ⟨v, rfl, ho⟩
set_option maxHeartbeats 4000000 in
set_option maxRecDepth 100000 in
theorem rSome_calls (s : ByteArray) (w : World) (hs : s.size ≤ 3518437208882) :
    Calls Tryz.prog 21 #[.string s] w fun e w' => rSomeR w.heap.size (someS s) e w' ∧ Below w.heap.size w w' := by
  have hs' : (s.size : Int) ≤ 3518437208882 := by omega
  have U := Lib.hid (fun w => Utf8_calls s w (by omega))
  have K := Lib.hid (fun w => Breaks_calls s w (by omega))
  obtain ⟨R, hR⟩ : ∃ R, R = someS s := ⟨_, rfl⟩
  rw [← hR]
  replace hR := Lib.hid hR
  replace hs := Lib.hid hs
  by_cases hu : utfE s = 0
  · have hv0 := (utfE_brk s).1 hu
    have hR0 : Hid (R = scanAt s 0) := Lib.hid (by rw [hR.out, someS_eq, if_pos hu])
    replace U : Hid (∀ w, Calls Tryz.prog 47 #[.string s] w fun e w' => e = .returned (.bool true) ∧ Below w.heap.size w w') := Lib.hid (fun w => by have := U.out w; rwa [decide_eq_true hu] at this)
    replace hu := Lib.hid hu
    replace hv0 := Lib.hid hv0
    clear K
    go_enter Tryz.func21, Tryz.ntmps21
    (go_wp2_with fail; repeat (any_goals (go_quiet (fail); go_wp2_with fail)))
    refine (U.out _).mono ?_
    rintro e w1 ⟨rfl, hb⟩
    have hb1 : Below w.heap.size w w1 := bcall (by repeat (first | assumption | exact Below.refl _ _ | apply Below.drew | apply below_drewN | apply balloc | (refine Below.setCell ?_ (by first | omega | (simp <;> omega)) _))) hb
    clear hb U
    (go_wp2_with fail; repeat (any_goals (go_quiet (fail); go_wp2_with fail)))
    go_loopg [5, 6] (s.size + 1) (fun kq v5 v6 wr => ∃ (k : Nat) (ts : List Tk), v6 = .int .i64 (k : Int) ∧ Hid (k ≤ s.size ∧ brkAt s k = s.size ∧ ts.length ≤ k ∧ (ts ++ (scanAt s k).1, (scanAt s k).2) = R ∧ kq + k ≥ s.size + 1 ∧ OwnT wr w.heap.size v5 ts) ∧ Below w.heap.size w wr)
    case atStart => exact ⟨0, [], rfl, Lib.hid ⟨Nat.zero_le _, hv0.out, Nat.zero_le _, hR0.out.symm, by omega, OwnT.nil _ _⟩, hb1⟩
    case round =>
      clear hb1
      obtain ⟨k, ts, rfl, H, hB⟩ := hrel
      have hx := byte_at s k
      have hq := Lib.hid (scanAt_eq s k H.out.2.1)
      have hk := H.out.1
      by_cases hlt : k < s.size
      · have hlt' : (k : Int) < (s.size : Int) := by omega
        cases hbl : blankN (bAt s k) with
        | true =>
          have C := Lib.hid (fun w => rBlank_calls2 (bAt s k) true w hbl)
          have hst : Hid ((ts ++ (scanAt s (k + 1)).1, (scanAt s (k + 1)).2) = R ∧ brkAt s (k + 1) = s.size) := Lib.hid (by
            have h1 := hq.out
            rw [if_pos hlt, if_pos hbl] at h1
            exact ⟨by rw [← h1]; exact H.out.2.2.2.1, brk_ascii H.out.2.1 hlt (blank_ascii hbl).2⟩)
          replace hbl := Lib.hid hbl
          replace hlt := Lib.hid hlt
          clear hq
          (go_wp2_with fail; repeat (any_goals (go_quiet (fail); go_wp2_with fail)))
          refine (C.out _).mono ?_
          rintro e w2 ⟨rfl, rfl⟩
          (go_wp2_with fail; repeat (any_goals (go_quiet (fail); go_wp2_with fail)))
          go_roundg (s.size + 1 - (k + 1))
          case measure => have := H.out.2.2.2.2.1; omega
          case rel =>
            have h3 := H.out.2.2.1
            have h4 := H.out.2.2.2.2.1
            refine ⟨k + 1, ts, by go_num, Lib.hid ⟨hlt.out, hst.out.2, by omega, hst.out.1, by omega, H.out.2.2.2.2.2⟩, by assumption⟩
        | false =>
          have C := Lib.hid (fun w => rBlank_calls2 (bAt s k) false w hbl)
          have h1 := hq.out
          rw [if_pos hlt, if_neg (by rw [hbl]; simp)] at h1
          obtain ⟨O, hO⟩ : ∃ O, oneAt s k = O := ⟨_, rfl⟩
          rw [hO] at h1
          have hfr : ∀ T, O = (0, 0, T) → T.fr = k ∧ k < T.to ∧ T.to ≤ s.size ∧ brkAt s T.to = s.size ∧ T.text.size ≤ T.to - k ∧ 1 ≤ T.kind ∧ T.kind ≤ 11 := fun T h => one_fr hlt H.out.2.1 (by rw [hO, h])
          have hform : O.1 = 0 → O = (0, 0, O.2.2) := fun h => by rw [← hO] at h ⊢; exact oneAt_form s k h
          replace hbl := Lib.hid hbl
          clear hq
          obtain ⟨e0, p, T⟩ := O
          cases e0 with
          | zero =>
            obtain rfl : p = 0 := by have := hform rfl; simp only [Prod.mk.injEq] at this; exact this.2.1
            have hT := hfr T rfl
            have D := Lib.hid (fun w => rOne_calls2 s k w (by have := hs.out; omega) hlt _ (rOneV_ok hO))
            rw [if_pos rfl] at h1
            simp only at h1
            have hst : Hid ((ts ++ [T] ++ (scanAt s T.to).1, (scanAt s T.to).2) = R) := Lib.hid (by
              have h2 := H.out.2.2.2.1
              rw [h1] at h2
              rw [← h2, List.append_assoc]; rfl)
            replace h1 := Lib.hid h1
            replace hO := Lib.hid hO
            replace hT := Lib.hid hT
            replace hlt := Lib.hid hlt
            clear hfr hform
            unfold tkV at D
            have hz := hB.size
            (go_wp2_with fail; repeat (any_goals (go_quiet (fail); go_wp2_with fail)))
            refine (C.out _).mono ?_
            rintro e w2 ⟨rfl, rfl⟩
            (go_wp2_with fail; repeat (any_goals (go_quiet (fail); go_wp2_with fail)))
            refine (D.out _).mono ?_
            rintro e w2 ⟨rfl, hb⟩
            have hb2 : Below w.heap.size w w2 := hB.trans (hb.mono hz)
            have ho2 := Lib.hid (H.out.2.2.2.2.2.next hb)
            have hz2 := hb2.size
            clear hb
            go_wp2_with (at_builtin; refine app_tk rfl _ _ rfl w.heap.size _ ts rfl (show OwnT _ _ _ _ from World.ownsRow.alloc (World.ownsRow.alloc ho2.out _) _) _ 1 _ _ _ T rfl (heap_new1 _ _ _) rfl (by have := H.out.1; have := H.out.2.2.1; have := hs.out; omega) (by simp; omega) ?_)
            intro v' w3 ho3 hg
            have hb3 := below_ownT ((hb2.alloc hz2 _).alloc (by simp; omega) _) (show OwnT _ _ _ _ from World.ownsRow.alloc (World.ownsRow.alloc ho2.out _) _) hg (by simp; omega)
            have y2 : w3.cell? ⟨w2.heap.size, 2, none⟩ = some (.int .i64 (T.to : Int)) := by
              refine hg.cell ?_ ?_
              · refine cellB (box_next (heap_alloc_new w2 _) ((Below.refl _ _).alloc (Nat.le_refl _) _)) 2 rfl
              · intro h
                have := (ho2.out.lt_size _ h.symm)
                simp at this
            replace ho3 := Lib.hid ho3
            clear hg
            (go_wp2_with fail; repeat (any_goals (go_quiet (fail); go_wp2_with fail)))
            go_roundg (s.size + 1 - T.to)
            case measure => have := H.out.2.2.2.2.1; have := hT.out.2.1; omega
            case rel =>
              have h3 := H.out.2.2.1
              have h4 := H.out.2.2.2.2.1
              have h5 := hT.out
              refine ⟨T.to, ts ++ [T], rfl, Lib.hid ⟨h5.2.2.1, h5.2.2.2.1, by rw [List.length_append, List.length_singleton]; omega, hst.out, by omega, ho3.out⟩, by assumption⟩
          | succ e0 =>
            have D := Lib.hid (fun w => rOne_calls2 s k w (by have := hs.out; omega) hlt _ (rOneV_bad hO))
            rw [if_neg (by simp)] at h1
            simp only at h1
            have hR2 : R = (ts, e0 + 1, p) := by
              have h2 := H.out.2.2.2.1
              rw [h1] at h2
              rw [← h2, List.append_nil]
            replace hR2 := Lib.hid hR2
            have hne2 : (((e0 + 1 : Nat) : Int) != 0) = true := by simp; omega
            replace h1 := Lib.hid h1
            replace hO := Lib.hid hO
            replace hlt := Lib.hid hlt
            clear hfr hform
            have hz := hB.size
            obtain ⟨e1, he1⟩ : ∃ e1, e1 = ((e0 + 1 : Nat) : Int) := ⟨_, rfl⟩
            rw [← he1] at D hne2
            replace he1 := Lib.hid he1
            (go_wp2_with fail; repeat (any_goals (go_quiet (fail); go_wp2_with fail)))
            refine (C.out _).mono ?_
            rintro e w2 ⟨rfl, rfl⟩
            (go_wp2_with fail; repeat (any_goals (go_quiet (fail); go_wp2_with fail)))
            refine (D.out _).mono ?_
            rintro e w2 ⟨rfl, hb⟩
            have hb2 : Below w.heap.size w w2 := hB.trans (hb.mono hz)
            have ho2 := Lib.hid (H.out.2.2.2.2.2.next hb)
            have hz2 := hb2.size
            clear hb
            (go_wp2_with fail; repeat (any_goals (go_quiet (fail); go_wp2_with fail)))
            go_ret3
            refine ⟨?_, hb2.alloc hz2 _⟩
            rw [he1.out]
            exact rSomeR_mk hR2.out (World.ownsRow.alloc ho2.out _)
      · have hlt' : ¬ (k : Int) < (s.size : Int) := by omega
        have h1 := hq.out
        rw [if_neg hlt] at h1
        have hR2 : R = (ts, 0, 0) := by
          have h2 := H.out.2.2.2.1
          rw [h1] at h2
          rw [← h2, List.append_nil]
        replace hR2 := Lib.hid hR2
        replace h1 := Lib.hid h1
        replace hlt := Lib.hid hlt
        clear hq
        (go_wp2_with fail; repeat (any_goals (go_quiet (fail); go_wp2_with fail)))
        go_ret3
        exact ⟨rSomeR_mk hR2.out H.out.2.2.2.2.2, (by repeat (first | assumption | exact Below.refl _ _ | apply Below.drew | apply below_drewN | apply balloc | (refine Below.setCell ?_ (by first | omega | (simp <;> omega)) _)))⟩
  · have hR2 : R = ([], 1, brkAt s 0) := by rw [hR.out, someS_eq, if_neg hu]
    replace U : Hid (∀ w, Calls Tryz.prog 47 #[.string s] w fun e w' => e = .returned (.bool false) ∧ Below w.heap.size w w') := Lib.hid (fun w => by have := U.out w; rwa [decide_eq_false hu] at this)
    replace hu := Lib.hid hu
    replace hR2 := Lib.hid hR2
    generalize brkAt s 0 = p at *
    go_enter Tryz.func21, Tryz.ntmps21
    (go_wp2_with fail; repeat (any_goals (go_quiet (fail); go_wp2_with fail)))
    refine (U.out _).mono ?_
    rintro e w1 ⟨rfl, hb⟩
    have hb1 : Below w.heap.size w w1 := bcall (by repeat (first | assumption | exact Below.refl _ _ | apply Below.drew | apply below_drewN | apply balloc | (refine Below.setCell ?_ (by first | omega | (simp <;> omega)) _))) hb
    clear hb
    (go_wp2_with fail; repeat (any_goals (go_quiet (fail); go_wp2_with fail)))
    refine (K.out _).mono ?_
    rintro e w2 ⟨rfl, hb⟩
    have hb2 : Below w.heap.size w w2 := bcall hb1 hb
    clear hb
    (go_wp2_with fail; repeat (any_goals (go_quiet (fail); go_wp2_with fail)))
    go_ret3
    refine ⟨⟨.slice none 0 0, ?_, ?_⟩, hb2⟩
    · rw [hR2.out]; rfl
    · rw [hR2.out]; exact OwnT.nil _ _
/-- What Scan answers. -/
def rScanR (base : Nat) (R : List Tk × Nat × Nat) (e : Ending) (w' : World) : Prop :=
  ∃ v, e = .returned (.tuple #[v, .int .i64 (if R.2.1 = 0 then 0 else (R.2.2 : Int)), .int .i64 (R.2.1 : Int)]) ∧ OwnT w' base v (if R.2.1 = 0 then R.1 else []) ∧ (R.2.1 ≠ 0 → v = .slice none 0 0)
set_option maxHeartbeats 1000000 in
theorem rScan_calls (s : ByteArray) (w : World) (hs : s.size ≤ 3518437208882) :
    Calls Tryz.prog 26 #[.string s] w fun e w' => rScanR w.heap.size (someS s) e w' ∧ Below w.heap.size w w' := by
  have U := Lib.hid (fun w => rSome_calls s w hs)
  obtain ⟨R, hR⟩ : ∃ R, R = someS s := ⟨_, rfl⟩
  rw [← hR] at U ⊢
  replace hR := Lib.hid hR
  replace hs := Lib.hid hs
  obtain ⟨ts, e0, p⟩ := R
  cases e0 with
  | zero =>
    go_enter Tryz.func26, Tryz.ntmps26
    (go_wp2_with fail; repeat (any_goals (go_quiet (fail); go_wp2_with fail)))
    refine (U.out _).mono ?_
    rintro e w1 ⟨⟨v, rfl, ho⟩, hb⟩
    simp only at ho
    replace ho := Lib.hid ho
    (go_wp2_with fail; repeat (any_goals (go_quiet (fail); go_wp2_with fail)))
    go_ret3
    exact ⟨⟨v, rfl, ho.out, fun h => absurd rfl h⟩, hb⟩
  | succ e0 =>
    have hne2 : (((e0 + 1 : Nat) : Int) != 0) = true := by simp; omega
    go_enter Tryz.func26, Tryz.ntmps26
    (go_wp2_with fail; repeat (any_goals (go_quiet (fail); go_wp2_with fail)))
    refine (U.out _).mono ?_
    rintro e w1 ⟨⟨v, rfl, ho⟩, hb⟩
    clear ho
    simp only
    obtain ⟨e1, he1⟩ : ∃ e1, e1 = ((e0 + 1 : Nat) : Int) := ⟨_, rfl⟩
    rw [← he1] at hne2 ⊢
    replace he1 := Lib.hid he1
    (go_wp2_with fail; repeat (any_goals (go_quiet (fail); go_wp2_with fail)))
    go_ret3
    refine ⟨⟨.slice none 0 0, ?_, OwnT.nil _ _, fun _ => rfl⟩, hb⟩
    rw [he1.out]; rfl

end Go.Proofs.YtibopkodoidjoaaGreatDoor

/- Package scan: all. -/
namespace Go.Proofs.YtibopkodoidjoaaGreatDoor
open Go Go.RowKit

/-- What a yield answers, over what it gathers. -/
structure YieldOk (F : Nat) (caps : Array Value) (N n0 : Nat) (I : Nat → List Tk → World → Prop) : Prop where
  ent : ∀ args w, (callFunc F args).run Tryz.prog w = .ok (.enter F args) w
  call : ∀ b s p ts t w, ts.length < N → I b ts w → ScB s p b w → n0 ≤ b → n0 ≤ w.heap.size → Calls Tryz.prog F (#[tkV t] ++ caps) w fun e w' => e = .returned (.bool true) ∧ I b (ts ++ [t]) w' ∧ ScB s p b w' ∧ Below n0 w w'
  stab : ∀ b ts w w', I b ts w → w.grownBy w' (some b) → I b ts w'
/-- What all answers. -/
def AllR (A : Nat → Addr) (n0 : Nat) (I : Nat → List Tk → World → Prop) (R : List Tk × Nat × Nat) (e : Ending) (w' : World) : Prop :=
  (∃ b, I b R.1 w') ∧ (if R.2.1 = 0 then e = .returned .nilIface else ∃ g, n0 ≤ g ∧ e = .returned (.iface 69 (.pointer (some ⟨g, 0, none⟩))) ∧ AtB (R.2.2 : Int) (.iface 237 (.pointer (some (A R.2.1)))) g w')
theorem blk_idem (s : ByteArray) (i : Nat) : blkAt s (blkAt s i) = blkAt s i := by
  rw [blkAt_eq s (blkAt s i)]
  by_cases h : blkAt s i < s.size
  · rw [if_neg (by rw [blkAt_not s _ i (Nat.le_refl _) h]; exact fun h => absurd h.2 Bool.false_ne_true)]
  · rw [if_neg (fun h2 => h h2.1)]
set_option maxHeartbeats 2000000 in
set_option maxRecDepth 100000 in
theorem all_calls {A : Nat → Addr} {B : Nat} (s : ByteArray) (F : Nat) (caps : Array Value) (I : Nat → List Tk → World → Prop) (n0 : Nat) (w : World) (hE : Env A B SJ w) (hn0 : n0 ≤ w.heap.size) (hBn : B ≤ n0) (hs : s.size ≤ 35184372088830) (hY : YieldOk F caps s.size n0 I)
    (hI : ∀ b w', w.heap.size ≤ b → Below w.heap.size w w' → I b [] w') :
    Calls Tryz.prog 52 #[.string s, .func (.func F) #[] caps] w fun e w' => AllR A n0 I (someS s) e w' ∧ Below n0 w w' := by
  have C := Lib.hid (scalarsCheck_calls (A := A) (B := B) s w (Nat.le_trans hs (by decide)) (hE.sub (by decide)))
  obtain ⟨R, hR⟩ : ∃ R, R = someS s := ⟨_, rfl⟩
  rw [← hR]
  replace hR := Lib.hid hR
  replace hI := Lib.hid hI
  have hent := hY.ent
  replace hY := Lib.hid hY
  replace hs := Lib.hid hs
  go_enter Tryz.func52, Tryz.ntmps52
  (go_wp2_with fail; repeat (any_goals (go_quiet (fail); go_wp2_with fail)))
  refine C.out.mono ?_
  rintro e w1 ⟨rfl, hb⟩
  have hb1 : Below w.heap.size w w1 := bcall (by repeat (first | assumption | exact Below.refl _ _ | apply Below.drew | apply below_drewN | apply balloc | (refine Below.setCell ?_ (by first | omega | (simp <;> omega)) _))) hb
  clear hb
  by_cases hu : utfE s = 0
  · rw [hu]
    replace hu := Lib.hid hu
    unfold errV
    have hv0 : brkAt s 0 = s.size := by
      have h := hu.out
      unfold utfE at h
      split at h
      · cases h
      · have := brkAt_le s; omega
    have hR0 : R = scanAt s 0 := by rw [hR.out, someS_eq, if_pos hu.out]
    replace hR0 := Lib.hid hR0
    replace hv0 := Lib.hid hv0
    have hz1 := hb1.size
    (go_wp2_with fail; repeat (any_goals (go_quiet (fail); go_wp2_with fail)))
    have hsc0 : ScB s (0 : Int) w1.heap.size (w1.alloc (.cells #[.string s, .int .i64 0] 162 (0, 0))) := heap_alloc_new w1 _
    refine (blanks_calls s 0 w1.heap.size _ (Nat.le_trans hs.out (by decide)) (Nat.zero_le _) hsc0).mono ?_
    rintro e w2 ⟨rfl, hsc, hg⟩
    have hb2 : Below w.heap.size w w2 := (hb1.alloc (by omega) _).trans (grown_below hg (by simp; omega) (by omega))
    generalize w1.heap.size = b at *
    clear hsc0 hg hb1
    replace hsc := Lib.hid hsc
    (go_wp2_with fail; repeat (any_goals (go_quiet (fail); go_wp2_with fail)))
    go_loopg [] (s.size + 1 - blkAt s 0) (fun kq wr => ∃ (k : Nat) (ts : List Tk), ScB s (k : Int) b wr ∧ Hid (k ≤ s.size ∧ blkAt s k = k ∧ brkAt s k = s.size ∧ I b ts wr ∧ ts.length ≤ k ∧ kq + k = s.size + 1 ∧ (ts ++ (scanAt s k).1, (scanAt s k).2) = R) ∧ Below n0 w wr)
    case atStart =>
      have hl := blkAt_low s 0 (Nat.zero_le _)
      have h1 := hl.2.1
      exact ⟨blkAt s 0, [], hsc.out, Lib.hid ⟨h1, blk_idem s 0, hl.brk hv0.out, hI.out b _ hz1 hb2, Nat.zero_le _, by omega, by rw [hR0.out, scan_blk s _ 0 (Nat.le_refl _) hv0.out]; rfl⟩, hb2.mono hn0⟩
    case round =>
      obtain ⟨k, ts, hsc2, H, hB⟩ := hrel
      clear hsc hb2
      have x1 := hsc2.at
      have hbl : b < wr.heap.size := ltB hsc2
      replace hsc2 := Lib.hid hsc2
      by_cases hlt : k < s.size
      · have hlt' : (k : Int) < (s.size : Int) := by omega
        have T := Lib.hid (fun w hE hsc => tok_calls (A := A) (B := B) s k b w hE hs.out hsc hlt H.out.2.2.1)
        (go_wp2_with fail; repeat (any_goals (go_quiet (fail); go_wp2_with fail)))
        refine (T.out _ (hE.below (hB.mono hBn)) hsc2.out).mono ?_
        clear T
        have ok3 := Lib.hid (fun h => oneAt_ok s k hlt H.out.2.2.1 h)
        have hst := Lib.hid (scan_step s k H.out.1 H.out.2.2.1)
        have bad3 := Lib.hid (fun h => oneAt_bad s k hlt h)
        generalize hO : oneAt s k = O at *
        obtain ⟨k0, pl, t⟩ := O
        replace hO := Lib.hid hO
        rintro e w3 ⟨hr, hb3⟩
        have hB3 : Below n0 w w3 := hB.trans (hb3.mono (Nat.le_trans hn0 hB.size))
        replace hsc2 := Lib.hid (hsc2.out.next hb3)
        have hI3 := Lib.hid (hY.out.stab b ts _ _ H.out.2.2.2.1 (grown_of_below hb3))
        have hbl3 : b < w3.heap.size := ltB hsc2.out
        have hz3 := hB3.size
        have hzr := hB.size
        clear x1 hbl hB
        cases k0 with
        | zero =>
          have hr := (nextR_ok rfl).1 hr
          subst hr
          have hq : Hid (t.fr = k ∧ k < t.to ∧ t.to ≤ s.size ∧ brkAt s t.to = s.size) := Lib.hid (by have h := ok3.out rfl; exact ⟨h.1, h.2.1, h.2.2.1, h.2.2.2.1⟩)
          have hst2 := hst.out
          clear ok3 bad3 hst
          replace hst2 := Lib.hid hst2
          have q1 := hsc2.out.at
          have qf := freeB hsc2.out 1
          unfold tkV
          (go_wp2_with fail; repeat (any_goals (go_quiet (fail); go_wp2_with fail)))
          refine (hY.out.call b s (t.to : Int) ts t _ ?_ ?_ ?_ ?_ ?_).mono ?_
          · have := H.out.2.2.2.2.1; omega
          · exact hY.out.stab b ts _ _ (hY.out.stab b ts _ _ hI3.out (grown_set w3 b 1 _)) (World.grownBy_alloc _ _ _)
          · exact (hsc2.out.set).next ((by repeat (first | assumption | exact Below.refl _ _ | apply Below.drew | apply below_drewN | apply balloc | (refine Below.setCell ?_ (by first | omega | (simp <;> omega)) _))))
          · omega
          · simp; omega
          rintro e w4 ⟨rfl, hI4, hsc4, hb4⟩
          have hB4 : Below n0 w w4 := by
            refine Below.trans ?_ hb4
            exact (hB3.setCell (p := ⟨b, 1, none⟩) (by simp; omega) _).alloc (by simp; omega) _
          have hz4 := hB4.size
          have hbl4 : b < w4.heap.size := ltB hsc4
          clear hb4 hb3 q1 qf hI3 hsc2
          replace hsc4 := Lib.hid hsc4
          replace hI4 := Lib.hid hI4
          have hq1 := hq.out.2.2.1
          (go_wp2_with fail; repeat (any_goals (go_quiet (fail); go_wp2_with fail)))
          refine (blanks_calls s t.to b w4 (Nat.le_trans hs.out (by decide)) hq1 hsc4.out).mono ?_
          rintro e w5 ⟨rfl, hsc5, hg5⟩
          have hB5 : Below n0 w w5 := hB4.trans (grown_below hg5 (by omega) (by omega))
          have hI5 := hY.out.stab b _ _ _ hI4.out hg5
          clear hg5 hsc4 hI4
          replace hI5 := Lib.hid hI5
          replace hsc5 := Lib.hid hsc5
          (go_wp2_with fail; repeat (any_goals (go_quiet (fail); go_wp2_with fail)))
          go_roundg (s.size + 1 - blkAt s t.to)
          case measure =>
            have h1 := (blkAt_low s t.to hq1)
            have h2 := hq.out.2.1
            have h3 := H.out.2.2.2.2.2.1
            have h4 := h1.1
            have h5 := h1.2.1
            omega
          case rel =>
            have h1 := (blkAt_low s t.to hq1)
            have h2 := hq.out.2.1
            have h3 := H.out.2.2.2.2.2.1
            have h4 := h1.1
            have h5 := h1.2.1
            have h6 := H.out.2.2.2.2.1
            have h7 := hst2.out
            rw [H.out.2.1, if_pos hlt, hO.out, if_pos rfl] at h7
            have h8 := H.out.2.2.2.2.2.2
            rw [h7] at h8
            refine ⟨blkAt s t.to, ts ++ [t], hsc5.out, Lib.hid ⟨h5, blk_idem s _, h1.brk hq.out.2.2.2, hI5.out, by rw [List.length_append, List.length_singleton]; omega, by omega, ?_⟩, hB5⟩
            rw [← h8, scan_blk s _ t.to (Nat.le_refl _) hq.out.2.2.2, List.append_assoc]
            rfl
        | succ k0 =>
          obtain ⟨g, hg, he, hat⟩ := (nextR_bad rfl).1 hr
          subst he
          clear hr
          replace hat := Lib.hid hat
          (go_wp2_with fail; repeat (any_goals (go_quiet (fail); go_wp2_with fail)))
          go_ret
          have hI6 := hY.out.stab b ts _ _ hI3.out (World.grownBy_alloc w3 (.cells #[.int .i64 0, .int .i64 0, .int .i64 0, .string ⟨#[]⟩] 59 (0, 0)) _)
          have h7 := hst.out
          rw [H.out.2.1, if_pos hlt, hO.out, if_neg (by simp)] at h7
          have h8 := H.out.2.2.2.2.2.2
          rw [h7] at h8
          refine ⟨⟨⟨b, ?_⟩, ?_⟩, hB3.alloc (by omega) _⟩
          · rw [← h8, List.append_nil]; exact hI6
          · rw [← h8, if_neg (by simp)]
            refine ⟨g, by omega, rfl, ?_⟩
            have h9 := hat.out
            unfold AtB at h9 ⊢
            rw [Below.heap_alloc _ _ _ (ltB h9)]
            exact h9
      · have hlt' : ¬ (k : Int) < (s.size : Int) := by omega
        (go_wp2_with fail; repeat (any_goals (go_quiet (fail); go_wp2_with fail)))
        go_ret
        have h7 := scanAt_eq s k H.out.2.2.1
        rw [if_neg hlt] at h7
        have h8 := H.out.2.2.2.2.2.2
        rw [h7] at h8
        refine ⟨⟨⟨b, ?_⟩, ?_⟩, (by repeat (first | assumption | exact Below.refl _ _ | apply Below.drew | apply below_drewN | apply balloc | (refine Below.setCell ?_ (by first | omega | (simp <;> omega)) _)))⟩
        · rw [← h8, List.append_nil]; exact H.out.2.2.2.1
        · rw [← h8, if_pos rfl]; rfl
  · have hu1 : utfE s = 1 := by unfold utfE at hu ⊢; split at hu <;> simp_all
    have hR1 : R = ([], 1, brkAt s 0) := by rw [hR.out, someS_eq, if_neg hu]
    rw [hu1]
    replace hR1 := Lib.hid hR1
    replace hu := Lib.hid hu
    replace hu1 := Lib.hid hu1
    unfold errV
    have hz1 := hb1.size
    (go_wp2_with fail; repeat (any_goals (go_quiet (fail); go_wp2_with fail)))
    refine (fault_calls _ _ _ _).mono ?_
    rintro e w2 ⟨g, hg, rfl, hat, hb⟩
    have hb2 : Below w.heap.size w w2 := bcall hb1 hb
    clear hb hb1
    replace hat := Lib.hid hat
    (go_wp2_with fail; repeat (any_goals (go_quiet (fail); go_wp2_with fail)))
    go_ret
    rw [hR1.out]
    refine ⟨⟨⟨g, hI.out g _ (Nat.le_trans hz1 hg) hb2⟩, ?_⟩, hb2.mono hn0⟩
    rw [if_neg (by simp)]
    exact ⟨g, Nat.le_trans hn0 (Nat.le_trans hz1 hg), rfl, hat.out⟩

end Go.Proofs.YtibopkodoidjoaaGreatDoor

/- Package scan: Scan. -/
namespace Go.Proofs.YtibopkodoidjoaaGreatDoor
open Go Go.RowKit

/-- Scan's list, while all runs. -/
def ScanI (c : Nat) (b : Nat) (ts : List Tk) (w : World) : Prop :=
  c < w.heap.size ∧ c ≠ b ∧ ∃ v, w.heap[c]? = some (.cells #[v] 49 (0, 0)) ∧ w.ownsRow (c + 1) 59 4 v ts.length (ts.flatMap tkC) ∧ v.ownBlock ≠ some b
theorem scan_yield (c N : Nat) (hN : N ≤ 3518437208883) : YieldOk 53 #[.pointer (some ⟨c, 0, none⟩)] N c (ScanI c) where
  ent := enters_of Tryz.func53 (by kernel_rfl) rfl
  call := by
    intro b s p ts t w hts hI hsc hb hw
    obtain ⟨h1, h2, v, h3, h4, h5⟩ := hI
    refine (yield_calls t c (c + 1) ts.length (ts.flatMap tkC) v w h3 h4 h1 (Nat.lt_succ_self c) (by omega)).mono ?_
    rintro e w1 ⟨rfl, v', g1, g2, g3, g4⟩
    have hbl := ltB hsc
    refine ⟨rfl, ⟨Nat.lt_of_lt_of_le h1 g4.size, h2, v', g1, ?_, ?_⟩, ?_, ⟨g4.os, g4.tape, g4.output, g4.size, fun k hk => g4.block k (by omega) (by omega) (fun h => ?_)⟩⟩
    · rw [List.length_append, List.length_singleton, List.flatMap_append]
      simpa using g2
    · rcases g3 with g3 | ⟨g, g3, g5⟩
      · rw [g3]; exact h5
      · rw [g3]; intro h; cases h; omega
    · unfold ScB at hsc ⊢
      rw [g4.block b hbl (fun h => h2 h.symm) (fun h => h5 h.symm)]
      exact hsc
    · have := (h4.lt k h.symm).1
      omega
  stab := by
    rintro b ts w w1 ⟨h1, h2, v, h3, h4, h5⟩ hg
    refine ⟨Nat.lt_of_lt_of_le h1 hg.size, h2, v, ?_, h4.kept hg (Or.inr h5), h5⟩
    rw [hg.block c h1 (fun h => h2 (by cases h; rfl))]
    exact h3
theorem own_base {w : World} {base base' e size : Nat} {v : Value} {n : Nat} {xs : List Value} (h : w.ownsRow base e size v n xs) (hb : base' ≤ base) : w.ownsRow base' e size v n xs := by
  obtain ⟨h1, h2 | ⟨g, cap, cur, h2, h3, h4⟩⟩ := h
  · exact ⟨h1, Or.inl h2⟩
  · exact ⟨h1, Or.inr ⟨g, cap, cur, h2, Nat.le_trans hb h3, h4⟩⟩
/-- What Scan answers: the list, owned; or nil, with the error's number and place. -/
def ScanR (A : Nat → Addr) (base : Nat) (R : List Tk × Nat × Nat) (e : Ending) (w' : World) : Prop :=
  if R.2.1 = 0 then ∃ v, e = .returned (.tuple #[v, .nilIface]) ∧ w'.ownsRow base 59 4 v R.1.length (R.1.flatMap tkC)
  else ∃ g, base ≤ g ∧ e = .returned (.tuple #[.slice none 0 0, .iface 69 (.pointer (some ⟨g, 0, none⟩))]) ∧ AtB (R.2.2 : Int) (.iface 237 (.pointer (some (A R.2.1)))) g w'
set_option maxHeartbeats 2000000 in
set_option maxRecDepth 100000 in
theorem Scan_calls {A : Nat → Addr} {B : Nat} (s : ByteArray) (w : World) (hE : Env A B SJ w) (hs : s.size ≤ 3518437208883) :
    Calls Tryz.prog 25 #[.string s] w fun e w' => ScanR A w.heap.size (someS s) e w' ∧ Below w.heap.size w w' := by
  have hs' : s.size ≤ 35184372088830 := by omega
  have Y := Lib.hid (scan_yield w.heap.size s.size hs)
  generalize hR : someS s = R
  replace hR := Lib.hid hR
  replace hs := Lib.hid hs
  replace hs' := Lib.hid hs'
  have hmf : ∀ (fn : Fn) (first cap : Array Value) (w : World), (Instr.makeFunc fn first cap).run Tryz.prog w = .ok (.func fn first cap) w := fun _ _ _ _ => rfl
  go_enter Tryz.func25, Tryz.ntmps25
  (go_wp2_with fail; repeat (any_goals (go_quiet (fail); go_wp2_with fail)))
  have hI : ∀ b w', (w.alloc (.cells #[.slice none 0 0] 49 (0, 0))).heap.size ≤ b → Below (w.alloc (.cells #[.slice none 0 0] 49 (0, 0))).heap.size (w.alloc (.cells #[.slice none 0 0] 49 (0, 0))) w' → ScanI w.heap.size b [] w' := by
    intro b w' hb h
    have h1 := h.size
    simp at h1 hb
    refine ⟨by omega, by omega, .slice none 0 0, ?_, World.ownsRow_nil _ _ _ _, by simp [Value.ownBlock]⟩
    rw [h.block _ (by simp)]
    exact heap_alloc_new w _
  refine (all_calls s 53 #[.pointer (some ⟨w.heap.size, 0, none⟩)] (ScanI w.heap.size) w.heap.size _ (hE.next (by repeat (first | assumption | exact Below.refl _ _ | apply Below.drew | apply below_drewN | apply balloc | (refine Below.setCell ?_ (by first | omega | (simp <;> omega)) _)))) (by simp) hE.hB hs'.out Y.out hI).mono ?_
  rintro e w1 ⟨⟨⟨b, hI1⟩, hr⟩, hb⟩
  have hb1 : Below w.heap.size w w1 := by
    refine Below.trans ?_ hb
    exact (by repeat (first | assumption | exact Below.refl _ _ | apply Below.drew | apply below_drewN | apply balloc | (refine Below.setCell ?_ (by first | omega | (simp <;> omega)) _)))
  obtain ⟨h1, h2, v, h3, h4, h5⟩ := hI1
  rw [hR.out] at h4 hr
  clear hI hb
  by_cases h0 : R.2.1 = 0
  · rw [if_pos h0] at hr
    subst hr
    have x0 : w1.cell? ⟨w.heap.size, 0, none⟩ = some v := cellB h3 0 rfl
    replace h3 := Lib.hid h3
    replace h4 := Lib.hid h4
    replace h5 := Lib.hid h5
    replace h0 := Lib.hid h0
    (go_wp2_with fail; repeat (any_goals (go_quiet (fail); go_wp2_with fail)))
    go_ret2
    refine ⟨?_, hb1⟩
    unfold ScanR
    rw [if_pos h0.out]
    exact ⟨v, rfl, own_base h4.out (Nat.le_succ _)⟩
  · rw [if_neg h0] at hr
    obtain ⟨g, hg, rfl, hat⟩ := hr
    replace h3 := Lib.hid h3
    replace h4 := Lib.hid h4
    replace h5 := Lib.hid h5
    replace h0 := Lib.hid h0
    replace hat := Lib.hid hat
    (go_wp2_with fail; repeat (any_goals (go_quiet (fail); go_wp2_with fail)))
    go_ret2
    refine ⟨?_, hb1⟩
    unfold ScanR
    rw [if_neg h0.out]
    exact ⟨g, hg, rfl, hat.out⟩

end Go.Proofs.YtibopkodoidjoaaGreatDoor

/- The errors' numbers. -/
namespace Go.Proofs.YtibopkodoidjoaaGreatDoor
open Go Go.RowKit
abbrev SVN : List Nat := [1, 2, 3, 4, 5, 6, 7, 8, 9, 10, 11, 12, 13, 14, 15, 16, 17, 18, 19]

theorem load_glob {w : World} {o : Oper} {g : Nat} {v : Value} (hc : w.cell? ⟨g, 0, none⟩ = some v) :
    ∀ ρ : Operand → Value, ρ (.global g) = .pointer (some ⟨g, 0, none⟩) → (execOp ρ { o with op := .load 26 (.global g) }).run Tryz.prog w = .ok (.value v) w := by
  intro ρ h
  have hu := Tryz.underlying26
  simp [execOp, h, Instr.loadAt, Instr.sureAddr, loadVar, isAgg, underlying, hu, hc, Result.andThen, Sem.run_bind]
theorem wpList_buildIs {P : Program} {w : World} {ops : Array Oper} {rest : List Oper} {o : Oper} {a : Act} {Q : Exit → Act → World → Prop} (hg : o.guard = none) (t : TypeId) (parts : Array (Nat × Operand)) (ho : o.op = .build t parts) {cells : Array Value}
    (hf : P.built t (parts.map fun (i, x) => (i, a.eval x)).toList = some cells)
    (h : wpList P ops Q rest (a.put o.dst (.agg cells)) w) : wpList P ops Q (o :: rest) a w :=
  wpList_build hg t parts ho (by rw [hf]; rfl) (by rw [hf]; exact h)
theorem info_list : (Tryz.prog.info? 123).map (·.size) = some 19 := by kernel_rfl
set_option maxHeartbeats 1000000 in
set_option maxRecDepth 100000 in
theorem list_calls {A : Nat → Addr} {B : Nat} (w : World) (hE : Env A B SVN w) :
    Calls Tryz.prog 55 #[] w fun e w' => e = .returned (.agg #[errV A 1, errV A 2, errV A 3, errV A 4, errV A 5, errV A 6, errV A 7, errV A 8, errV A 9, errV A 10, errV A 11, errV A 12, errV A 13, errV A 14, errV A 15, errV A 16, errV A 17, errV A 18, errV A 19]) ∧ Below w.heap.size w w' := by
  obtain ⟨o, ho⟩ : ∃ o, o = Obj.cells (Array.replicate 19 Value.nilIface) 123 (0, 0) := ⟨_, rfl⟩
  have c1 : (w.alloc o).cell? ⟨3, 0, none⟩ = some (.iface 237 (.pointer (some (A 1)))) := (hE.next (balloc (Below.refl _ _))).e1
  have c2 : (w.alloc o).cell? ⟨0, 0, none⟩ = some (.iface 237 (.pointer (some (A 2)))) := (hE.next (balloc (Below.refl _ _))).e2
  have c3 : (w.alloc o).cell? ⟨1, 0, none⟩ = some (.iface 237 (.pointer (some (A 3)))) := (hE.next (balloc (Below.refl _ _))).e3
  have c4 : (w.alloc o).cell? ⟨4, 0, none⟩ = some (.iface 237 (.pointer (some (A 4)))) := (hE.next (balloc (Below.refl _ _))).e4
  have c5 : (w.alloc o).cell? ⟨6, 0, none⟩ = some (.iface 237 (.pointer (some (A 5)))) := (hE.next (balloc (Below.refl _ _))).e5
  have c6 : (w.alloc o).cell? ⟨5, 0, none⟩ = some (.iface 237 (.pointer (some (A 6)))) := (hE.next (balloc (Below.refl _ _))).e6
  have c7 : (w.alloc o).cell? ⟨8, 0, none⟩ = some (.iface 237 (.pointer (some (A 7)))) := (hE.next (balloc (Below.refl _ _))).e7
  have c8 : (w.alloc o).cell? ⟨9, 0, none⟩ = some (.iface 237 (.pointer (some (A 8)))) := (hE.next (balloc (Below.refl _ _))).e8
  have c9 : (w.alloc o).cell? ⟨10, 0, none⟩ = some (.iface 237 (.pointer (some (A 9)))) := (hE.next (balloc (Below.refl _ _))).e9
  have c10 : (w.alloc o).cell? ⟨11, 0, none⟩ = some (.iface 237 (.pointer (some (A 10)))) := (hE.next (balloc (Below.refl _ _))).e10
  have c11 : (w.alloc o).cell? ⟨12, 0, none⟩ = some (.iface 237 (.pointer (some (A 11)))) := (hE.next (balloc (Below.refl _ _))).e11
  have c12 : (w.alloc o).cell? ⟨7, 0, none⟩ = some (.iface 237 (.pointer (some (A 12)))) := (hE.next (balloc (Below.refl _ _))).e12
  have c13 : (w.alloc o).cell? ⟨13, 0, none⟩ = some (.iface 237 (.pointer (some (A 13)))) := (hE.next (balloc (Below.refl _ _))).e13
  have c14 : (w.alloc o).cell? ⟨14, 0, none⟩ = some (.iface 237 (.pointer (some (A 14)))) := (hE.next (balloc (Below.refl _ _))).e14
  have c15 : (w.alloc o).cell? ⟨15, 0, none⟩ = some (.iface 237 (.pointer (some (A 15)))) := (hE.next (balloc (Below.refl _ _))).e15
  have c16 : (w.alloc o).cell? ⟨16, 0, none⟩ = some (.iface 237 (.pointer (some (A 16)))) := (hE.next (balloc (Below.refl _ _))).e16
  have c17 : (w.alloc o).cell? ⟨17, 0, none⟩ = some (.iface 237 (.pointer (some (A 17)))) := (hE.next (balloc (Below.refl _ _))).e17
  have c18 : (w.alloc o).cell? ⟨18, 0, none⟩ = some (.iface 237 (.pointer (some (A 18)))) := (hE.next (balloc (Below.refl _ _))).e18
  have c19 : (w.alloc o).cell? ⟨19, 0, none⟩ = some (.iface 237 (.pointer (some (A 19)))) := (hE.next (balloc (Below.refl _ _))).e19
  have hlast : (w.alloc o).heap[w.heap.size]? = some (.cells (Array.replicate 19 Value.nilIface) 123 (0, 0)) := by rw [ho]; exact heap_alloc_new w _
  have hbel : ∀ cs, Below w.heap.size w ((w.alloc o).setRow w.heap.size cs) := fun cs => below_setRow (balloc (Below.refl _ _)) (Nat.le_refl _) cs
  simp only [errV]
  generalize A 1 = a1 at *
  generalize A 2 = a2 at *
  generalize A 3 = a3 at *
  generalize A 4 = a4 at *
  generalize A 5 = a5 at *
  generalize A 6 = a6 at *
  generalize A 7 = a7 at *
  generalize A 8 = a8 at *
  generalize A 9 = a9 at *
  generalize A 10 = a10 at *
  generalize A 11 = a11 at *
  generalize A 12 = a12 at *
  generalize A 13 = a13 at *
  generalize A 14 = a14 at *
  generalize A 15 = a15 at *
  generalize A 16 = a16 at *
  generalize A 17 = a17 at *
  generalize A 18 = a18 at *
  generalize A 19 = a19 at *
  clear hE
  go_enter Tryz.func55, Tryz.ntmps55
  refine wp_seq ?_
  refine wp_region_lit ?_
  refine Great.wpList_allocTo rfl (some 0) rfl (.pointer (some ⟨w.heap.size, 0, none⟩)) o (by subst ho; kernel_rfl) ?_
  refine wpList_nil ?_
  refine wp_seq ?_
  refine wp_region_lit ?_
  refine Great.wpList_loadVarTo rfl (some 1) rfl 26 3 rfl (.iface 237 (.pointer (some a1))) (load_glob c1) ?_
  refine Great.wpList_loadVarTo rfl (some 2) rfl 26 0 rfl (.iface 237 (.pointer (some a2))) (load_glob c2) ?_
  refine Great.wpList_loadVarTo rfl (some 3) rfl 26 1 rfl (.iface 237 (.pointer (some a3))) (load_glob c3) ?_
  refine Great.wpList_loadVarTo rfl (some 4) rfl 26 4 rfl (.iface 237 (.pointer (some a4))) (load_glob c4) ?_
  refine Great.wpList_loadVarTo rfl (some 5) rfl 26 6 rfl (.iface 237 (.pointer (some a5))) (load_glob c5) ?_
  refine Great.wpList_loadVarTo rfl (some 6) rfl 26 5 rfl (.iface 237 (.pointer (some a6))) (load_glob c6) ?_
  refine Great.wpList_loadVarTo rfl (some 7) rfl 26 8 rfl (.iface 237 (.pointer (some a7))) (load_glob c7) ?_
  refine Great.wpList_loadVarTo rfl (some 8) rfl 26 9 rfl (.iface 237 (.pointer (some a8))) (load_glob c8) ?_
  refine Great.wpList_loadVarTo rfl (some 9) rfl 26 10 rfl (.iface 237 (.pointer (some a9))) (load_glob c9) ?_
  refine Great.wpList_loadVarTo rfl (some 10) rfl 26 11 rfl (.iface 237 (.pointer (some a10))) (load_glob c10) ?_
  refine Great.wpList_loadVarTo rfl (some 11) rfl 26 12 rfl (.iface 237 (.pointer (some a11))) (load_glob c11) ?_
  refine Great.wpList_loadVarTo rfl (some 12) rfl 26 7 rfl (.iface 237 (.pointer (some a12))) (load_glob c12) ?_
  refine Great.wpList_loadVarTo rfl (some 13) rfl 26 13 rfl (.iface 237 (.pointer (some a13))) (load_glob c13) ?_
  refine Great.wpList_loadVarTo rfl (some 14) rfl 26 14 rfl (.iface 237 (.pointer (some a14))) (load_glob c14) ?_
  refine Great.wpList_loadVarTo rfl (some 15) rfl 26 15 rfl (.iface 237 (.pointer (some a15))) (load_glob c15) ?_
  refine Great.wpList_loadVarTo rfl (some 16) rfl 26 16 rfl (.iface 237 (.pointer (some a16))) (load_glob c16) ?_
  refine Great.wpList_loadVarTo rfl (some 17) rfl 26 17 rfl (.iface 237 (.pointer (some a17))) (load_glob c17) ?_
  refine Great.wpList_loadVarTo rfl (some 18) rfl 26 18 rfl (.iface 237 (.pointer (some a18))) (load_glob c18) ?_
  refine Great.wpList_loadVarTo rfl (some 19) rfl 26 19 rfl (.iface 237 (.pointer (some a19))) (load_glob c19) ?_
  refine wpList_buildIs rfl _ _ rfl (cells := #[.iface 237 (.pointer (some a1)), .iface 237 (.pointer (some a2)), .iface 237 (.pointer (some a3)), .iface 237 (.pointer (some a4)), .iface 237 (.pointer (some a5)), .iface 237 (.pointer (some a6)), .iface 237 (.pointer (some a7)), .iface 237 (.pointer (some a8)), .iface 237 (.pointer (some a9)), .iface 237 (.pointer (some a10)), .iface 237 (.pointer (some a11)), .iface 237 (.pointer (some a12)), .iface 237 (.pointer (some a13)), .iface 237 (.pointer (some a14)), .iface 237 (.pointer (some a15)), .iface 237 (.pointer (some a16)), .iface 237 (.pointer (some a17)), .iface 237 (.pointer (some a18)), .iface 237 (.pointer (some a19))]) (by kernel_rfl) ?_
  refine wpList_store_row rfl 123 (.tmp 0) (.tmp 20) rfl w.heap.size #[.iface 237 (.pointer (some a1)), .iface 237 (.pointer (some a2)), .iface 237 (.pointer (some a3)), .iface 237 (.pointer (some a4)), .iface 237 (.pointer (some a5)), .iface 237 (.pointer (some a6)), .iface 237 (.pointer (some a7)), .iface 237 (.pointer (some a8)), .iface 237 (.pointer (some a9)), .iface 237 (.pointer (some a10)), .iface 237 (.pointer (some a11)), .iface 237 (.pointer (some a12)), .iface 237 (.pointer (some a13)), .iface 237 (.pointer (some a14)), .iface 237 (.pointer (some a15)), .iface 237 (.pointer (some a16)), .iface 237 (.pointer (some a17)), .iface 237 (.pointer (some a18)), .iface 237 (.pointer (some a19))] (by kernel_rfl) (by kernel_rfl) 123 _ hlast info_list (by kernel_rfl) (by kernel_rfl) ?_
  refine wpList_nil ?_
  simp only [Exit.then]
  refine wp_ret ?_
  refine bodyPost_ret (results_cell_row rfl _ _ w.heap.size 123 #[.iface 237 (.pointer (some a1)), .iface 237 (.pointer (some a2)), .iface 237 (.pointer (some a3)), .iface 237 (.pointer (some a4)), .iface 237 (.pointer (some a5)), .iface 237 (.pointer (some a6)), .iface 237 (.pointer (some a7)), .iface 237 (.pointer (some a8)), .iface 237 (.pointer (some a9)), .iface 237 (.pointer (some a10)), .iface 237 (.pointer (some a11)), .iface 237 (.pointer (some a12)), .iface 237 (.pointer (some a13)), .iface 237 (.pointer (some a14)), .iface 237 (.pointer (some a15)), .iface 237 (.pointer (some a16)), .iface 237 (.pointer (some a17)), .iface 237 (.pointer (some a18)), .iface 237 (.pointer (some a19))] (0, 0) _ (by kernel_rfl) (setRow_heap _ _ _ _ _ _ hlast) Tryz.underlying123 rfl info_list) rfl ⟨rfl, hbel _⟩

theorem run_index19 (cs : Array Value) (v : Value) (j : Nat) (hj : j < 19) (hv : cs[j]? = some v) (w : World) :
    (Instr.index 123 (.agg cs) (.int .i64 (j : Int))).run Tryz.prog w = .ok v w := by
  have h1 : (sizeOf 26).run Tryz.prog w = .ok 1 w := by kernel_rfl
  have h2 : (isAgg 26).run Tryz.prog w = .ok false w := by kernel_rfl
  have h0 : (0 : Int) ≤ (j : Int) ∧ (j : Int) < 19 := by omega
  simp [Instr.index, asIntOf, run_underlying Tryz.underlying123, h0, h1, h2, Result.andThen, Sem.run_bind, part, hv]
  intro h; omega
def ErrCells (A : Nat → Addr) (cs : Array Value) : Prop := ∀ j, j < 19 → cs[j]? = some (.iface 237 (.pointer (some (A (j + 1)))))
theorem errCells (A : Nat → Addr) : ErrCells A #[errV A 1, errV A 2, errV A 3, errV A 4, errV A 5, errV A 6, errV A 7, errV A 8, errV A 9, errV A 10, errV A 11, errV A 12, errV A 13, errV A 14, errV A 15, errV A 16, errV A 17, errV A 18, errV A 19] := by
  intro j hj
  have : j = 0 ∨ j = 1 ∨ j = 2 ∨ j = 3 ∨ j = 4 ∨ j = 5 ∨ j = 6 ∨ j = 7 ∨ j = 8 ∨ j = 9 ∨ j = 10 ∨ j = 11 ∨ j = 12 ∨ j = 13 ∨ j = 14 ∨ j = 15 ∨ j = 16 ∨ j = 17 ∨ j = 18 := by omega
  rcases this with rfl | rfl | rfl | rfl | rfl | rfl | rfl | rfl | rfl | rfl | rfl | rfl | rfl | rfl | rfl | rfl | rfl | rfl | rfl <;> rfl
theorem list_calls' {A : Nat → Addr} {B : Nat} (w : World) (hE : Env A B SVN w) :
    Calls Tryz.prog 55 #[] w fun e w' => ∃ cs, ErrCells A cs ∧ e = .returned (.agg cs) ∧ Below w.heap.size w w' :=
  (list_calls w hE).mono fun _ _ ⟨he, hb⟩ => ⟨_, errCells A, he, hb⟩
set_option maxHeartbeats 1000000 in
set_option maxRecDepth 100000 in
theorem Num_err {A : Nat → Addr} {B : Nat} (k : Nat) (w : World) (h1 : 1 ≤ k) (h2 : k ≤ 19) (hE : Env A B SVN w) :
    Calls Tryz.prog 28 #[.iface 237 (.pointer (some (A k)))] w fun e w' => e = .returned (.int .i64 k) ∧ Below w.heap.size w w' := by
  go_enter Tryz.func28, Tryz.ntmps28
  (go_wp2_with fail; repeat (any_goals (go_quiet (fail); go_wp2_with fail)))
  refine (list_calls' _ hE).mono ?_
  rintro e w1 ⟨cs, hcs, rfl, hb⟩
  have hE1 := hE.next hb
  replace hcs := Lib.hid hcs
  (go_wp2_with fail; repeat (any_goals (go_quiet (fail); go_wp2_with fail)))
  go_loop [8] (fun c => ∃ j : Nat, j < k ∧ c = .int .i64 (j : Int)) (fun c => 19 - (intOf c).toNat)
  case atStart => exact ⟨0, by omega, rfl⟩
  case round =>
    obtain ⟨j, hj, rfl⟩ := hrel
    have ix := fun w => run_index19 cs _ j (by omega) (hcs.out j (by omega)) w
    by_cases hl : j + 1 = k
    · subst hl
      (go_wp2_with fail; repeat (any_goals (go_quiet (fail); go_wp2_with fail)))
      go_ret
      exact ⟨by simp, hb⟩
    · have ms : ∀ m, 1 ≤ m → m ≤ 19 → m ∈ SVN := fun m h1 h2 => by simp [SVN]; omega
      obtain ⟨ca, ta, ba⟩ := hE1.blk k (ms k h1 h2)
      obtain ⟨cb, tb, bb⟩ := hE1.blk (j + 1) (ms (j + 1) (by omega) (by omega))
      have q := eqErr_other w1 (hE1.ne k (j + 1) (ms k h1 h2) (ms (j + 1) (by omega) (by omega)) (by omega)) ba bb
      replace ba := Lib.hid ba
      replace bb := Lib.hid bb
      replace hl := Lib.hid hl
      clear ms
      (go_wp2_with fail; repeat (any_goals (go_quiet (fail); go_wp2_with fail)))
      go_round
      case rel => exact ⟨j + 1, by have := hl.out; omega, by go_num⟩
      case measure => simp [intOf]; omega
end Go.Proofs.YtibopkodoidjoaaGreatDoor

/- Lists of tokens in memory; the statements' same; vellumnum.Place. -/
namespace Go.Proofs.YtibopkodoidjoaaGreatDoor
open Go Go.RowKit

theorem flat_get : ∀ (ts : List Tk) (j : Nat) (T : Tk) (i : Nat), ts[j]? = some T → i < 4 → (ts.flatMap tkC)[j * 4 + i]? = (tkC T)[i]?
  | [], j, T, i, h, _ => by simp at h
  | t :: ts, 0, T, i, h, hi => by
    simp at h
    subst h
    rw [List.flatMap_cons, Nat.zero_mul, Nat.zero_add, List.getElem?_append_left (by show i < 4; exact hi)]
  | t :: ts, j + 1, T, i, h, hi => by
    simp at h
    rw [List.flatMap_cons, List.getElem?_append_right (by show 4 ≤ (j + 1) * 4 + i; omega)]
    have : (j + 1) * 4 + i - (tkC t).length = j * 4 + i := by show (j + 1) * 4 + i - 4 = _; omega
    rw [this]
    exact flat_get ts j T i h hi
theorem OwnT.form {w : World} {base : Nat} {v : Value} {ts : List Tk} (h : OwnT w base v ts) : (ts = [] ∧ v = .slice none 0 0) ∨ ∃ g cap, v = .slice (some ⟨g, 0, none⟩) ts.length cap ∧ base ≤ g ∧ g < w.heap.size ∧ ts.length ≤ cap ∧ cap ≤ maxLen := by
  obtain ⟨h1, ⟨rfl, h3⟩ | ⟨g, cap, cur, rfl, hbg, hg, hn, hc, hz, ht⟩⟩ := h
  · exact Or.inl ⟨List.eq_nil_of_length_eq_zero h3, rfl⟩
  · exact Or.inr ⟨g, cap, rfl, hbg, ltB hg, hn, hc⟩
theorem OwnT.form2 {w : World} {base : Nat} {v : Value} {l : List Tk} (h : OwnT w base v l) : ∃ a cap, v = .slice a l.length cap := by
  obtain ⟨h1, ⟨rfl, h3⟩ | ⟨g, cap, cur, rfl, hbg, hg, hn, hc, hz, ht⟩⟩ := h
  · exact ⟨none, 0, by rw [h3]⟩
  · exact ⟨some ⟨g, 0, none⟩, cap, rfl⟩
theorem OwnT.at {w : World} {base g n cap : Nat} {ts : List Tk} (h : OwnT w base (.slice (some ⟨g, 0, none⟩) n cap) ts) {j : Nat} {T : Tk} (hj : ts[j]? = some T) :
    w.cell? ⟨g, j * 4, none⟩ = some (.int .i64 (T.kind : Int)) ∧ w.cell? ⟨g, j * 4 + 1, none⟩ = some (.int .i64 (T.fr : Int)) ∧ w.cell? ⟨g, j * 4 + 2, none⟩ = some (.int .i64 (T.to : Int)) ∧ w.cell? ⟨g, j * 4 + 3, none⟩ = some (.string T.text) := by
  obtain ⟨h1, ⟨h2, _⟩ | ⟨g', cap', cur, h2, hbg, hg, hn, hc, hz, ht⟩⟩ := h
  · cases h2
  · cases h2
    have hjl : j < ts.length := by
      rcases Nat.lt_or_ge j ts.length with h | h
      · exact h
      · rw [List.getElem?_eq_none h] at hj; cases hj
    have key : ∀ i u, i < 4 → (tkC T)[i]? = some u → w.cell? ⟨g, j * 4 + i, none⟩ = some u := by
      intro i u hi hu
      refine cellB hg (j * 4 + i) ?_
      have h3 := flat_get ts j T i hj hi
      rw [← ht, List.getElem?_take_of_lt (by omega), Array.getElem?_toList] at h3
      rw [h3, hu]
    exact ⟨key 0 _ (by decide) rfl, key 1 _ (by decide) rfl, key 2 _ (by decide) rfl, key 3 _ (by decide) rfl⟩

end Go.Proofs.YtibopkodoidjoaaGreatDoor

/- Package tree: the parser's small functions. -/
namespace Go.Proofs.YtibopkodoidjoaaGreatDoor
open Go Go.RowKit

/-- The parser's block. -/
def PsB (s : ByteArray) (v : Value) (p : Nat) (b : Nat) (w : World) : Prop := w.heap[b]? = some (.cells #[.string s, v, .int .i64 (p : Int)] 75 (0, 0))
theorem PsB.next {s : ByteArray} {v : Value} {p b : Nat} {w w' : World} (h : PsB s v p b w) (hb : Below w.heap.size w w') : PsB s v p b w' := box_next h hb
theorem PsB.c0 {s : ByteArray} {v : Value} {p b : Nat} {w : World} (h : PsB s v p b w) : w.cell? ⟨b, 0, none⟩ = some (.string s) := cellB h 0 rfl
theorem PsB.c1 {s : ByteArray} {v : Value} {p b : Nat} {w : World} (h : PsB s v p b w) : w.cell? ⟨b, 1, none⟩ = some v := cellB h 1 rfl
theorem PsB.c2 {s : ByteArray} {v : Value} {p b : Nat} {w : World} (h : PsB s v p b w) : w.cell? ⟨b, 2, none⟩ = some (.int .i64 (p : Int)) := cellB h 2 rfl
/-- The next token's kind; its place. -/
def kindT (ts : List Tk) (p : Nat) : Nat := match ts[p]? with | some T => T.kind | none => 0
def placeT (s : ByteArray) (ts : List Tk) (p : Nat) : Nat := match ts[p]? with | some T => T.fr | none => s.size
/-- The parser gives up. -/
def GaveUp (A : Nat → Addr) (base k : Nat) (p : Nat) (e : Ending) (w' : World) : Prop := ∃ g, base ≤ g ∧ e = .panicked [{ v := .iface 71 (.agg #[.pointer (some ⟨g, 0, none⟩)]), recovered := false }] ∧ AtB (p : Int) (.iface 237 (.pointer (some (A k)))) g w'
set_option maxHeartbeats 1000000 in
theorem fail_calls (A : Nat → Addr) (k p : Nat) (w : World) : Calls Tryz.prog 32 #[.int .i64 (p : Int), .iface 237 (.pointer (some (A k)))] w fun e w' => GaveUp A w.heap.size k p e w' ∧ Below w.heap.size w w' := by
  go_enter Tryz.func32, Tryz.ntmps32
  (go_wp2_with fail; repeat (any_goals (go_quiet (fail); go_wp2_with fail)))
  exact ⟨rfl, ⟨w.heap.size, Nat.le_refl _, rfl, heap_alloc_new w _⟩, (by repeat (first | assumption | exact Below.refl _ _ | apply Below.drew | apply below_drewN | apply balloc | (refine Below.setCell ?_ (by first | omega | (simp <;> omega)) _)))⟩
set_option maxHeartbeats 1000000 in
set_option maxRecDepth 100000 in
theorem tnext_calls {base : Nat} {v : Value} {ts : List Tk} (s : ByteArray) (p b : Nat) (w : World) (hp : p ≤ ts.length) (hsc : PsB s v p b w) (ho : OwnT w base v ts) :
    Calls Tryz.prog 57 #[.pointer (some ⟨b, 0, none⟩)] w fun e w' => e = .returned (.int .i64 (kindT ts p : Int)) ∧ Below w.heap.size w w' := by
  have x1 := hsc.c1
  have x2 := hsc.c2
  have hbl := ltB hsc
  replace hsc := Lib.hid hsc
  by_cases h : p = ts.length
  · have hk : kindT ts p = 0 := by unfold kindT; rw [List.getElem?_eq_none (by omega)]
    rw [hk]
    obtain ⟨a, c, rfl⟩ := ho.form2
    replace ho := Lib.hid ho
    have he : ((p : Int) == (ts.length : Int)) = true := by simp; omega
    replace h := Lib.hid h
    replace hk := Lib.hid hk
    generalize ts.length = n at *
    go_enter Tryz.func57, Tryz.ntmps57
    (go_wp2_with fail; repeat (any_goals (go_quiet (fail); go_wp2_with fail)))
    go_ret
    exact ⟨rfl, (by repeat (first | assumption | exact Below.refl _ _ | apply Below.drew | apply below_drewN | apply balloc | (refine Below.setCell ?_ (by first | omega | (simp <;> omega)) _)))⟩
  · rcases ho.form with ⟨rfl, rfl⟩ | ⟨g, cap, rfl, hbg, hgl, hnl, hcm⟩
    · simp at hp h; omega
    have hT : ts[p]? = some (ts[p]'(by omega)) := List.getElem?_eq_getElem _
    have hk : kindT ts p = (ts[p]'(by omega)).kind := by unfold kindT; rw [hT]
    rw [hk]
    obtain ⟨y0, _, _, _⟩ := ho.at hT
    generalize ts[p]'(by omega) = T at *
    have he : ((p : Int) == (ts.length : Int)) = false := by simp; omega
    have hlt : (p : Int) < (ts.length : Int) := by omega
    unfold maxLen at hcm
    replace h := Lib.hid h
    replace hk := Lib.hid hk
    replace hT := Lib.hid hT
    replace ho := Lib.hid ho
    generalize ts.length = n at *
    go_enter Tryz.func57, Tryz.ntmps57
    (go_wp2_with fail; repeat (any_goals (go_quiet (fail); go_wp2_with fail)))
    go_ret
    exact ⟨rfl, (by repeat (first | assumption | exact Below.refl _ _ | apply Below.drew | apply below_drewN | apply balloc | (refine Below.setCell ?_ (by first | omega | (simp <;> omega)) _)))⟩
set_option maxHeartbeats 1000000 in
set_option maxRecDepth 100000 in
theorem tplace_calls {base : Nat} {v : Value} {ts : List Tk} (s : ByteArray) (p b : Nat) (w : World) (hp : p ≤ ts.length) (hsc : PsB s v p b w) (ho : OwnT w base v ts) :
    Calls Tryz.prog 33 #[.pointer (some ⟨b, 0, none⟩)] w fun e w' => e = .returned (.int .i64 (placeT s ts p : Int)) ∧ Below w.heap.size w w' := by
  have x0 := hsc.c0
  have x1 := hsc.c1
  have x2 := hsc.c2
  have hbl := ltB hsc
  replace hsc := Lib.hid hsc
  by_cases h : p = ts.length
  · have hk : placeT s ts p = s.size := by unfold placeT; rw [List.getElem?_eq_none (by omega)]
    rw [hk]
    obtain ⟨a, c, rfl⟩ := ho.form2
    replace ho := Lib.hid ho
    have he : ((p : Int) == (ts.length : Int)) = true := by simp; omega
    replace h := Lib.hid h
    replace hk := Lib.hid hk
    generalize ts.length = n at *
    go_enter Tryz.func33, Tryz.ntmps33
    (go_wp2_with fail; repeat (any_goals (go_quiet (fail); go_wp2_with fail)))
    go_ret
    exact ⟨rfl, (by repeat (first | assumption | exact Below.refl _ _ | apply Below.drew | apply below_drewN | apply balloc | (refine Below.setCell ?_ (by first | omega | (simp <;> omega)) _)))⟩
  · rcases ho.form with ⟨rfl, rfl⟩ | ⟨g, cap, rfl, hbg, hgl, hnl, hcm⟩
    · simp at hp h; omega
    have hT : ts[p]? = some (ts[p]'(by omega)) := List.getElem?_eq_getElem _
    have hk : placeT s ts p = (ts[p]'(by omega)).fr := by unfold placeT; rw [hT]
    rw [hk]
    obtain ⟨_, y1, _, _⟩ := ho.at hT
    generalize ts[p]'(by omega) = T at *
    have he : ((p : Int) == (ts.length : Int)) = false := by simp; omega
    have hlt : (p : Int) < (ts.length : Int) := by omega
    unfold maxLen at hcm
    replace h := Lib.hid h
    replace hk := Lib.hid hk
    replace hT := Lib.hid hT
    replace ho := Lib.hid ho
    generalize ts.length = n at *
    go_enter Tryz.func33, Tryz.ntmps33
    (go_wp2_with fail; repeat (any_goals (go_quiet (fail); go_wp2_with fail)))
    go_ret
    exact ⟨rfl, (by repeat (first | assumption | exact Below.refl _ _ | apply Below.drew | apply below_drewN | apply balloc | (refine Below.setCell ?_ (by first | omega | (simp <;> omega)) _)))⟩

end Go.Proofs.YtibopkodoidjoaaGreatDoor

/- Package tree: the parser as a plain function. -/
namespace Go.Proofs.YtibopkodoidjoaaGreatDoor
open Go Go.RowKit

/-- A node. -/
inductive Nd where
  | null (p : Nat)
  | flag (p : Nat) (b : Bool)
  | num (p : Nat) (t : ByteArray)
  | text (p : Nat) (t : ByteArray)
  | lst (p : Nat) (xs : List Nd)
  | obj (p : Nat) (xs : List (ByteArray × Nat × Nd))
/-- What a part of the parser answers: the thing and the place behind it, an error's number and place, or nothing yet. -/
inductive PR (α : Type) where
  | ok (x : α) (p : Nat)
  | err (k pl : Nat)
  | out
def textT (ts : List Tk) (p : Nat) : ByteArray := match ts[p]? with | some T => T.text | none => noS
def wordT (s : ByteArray) (ts : List Tk) (p : Nat) : ByteArray := match ts[p]? with | some T => s.extract T.fr T.to | none => noS
/-- Behind a member of a list or an object: it ends, or goes on. -/
def rest (s : ByteArray) (ts : List Tk) (stop p : Nat) : PR Bool := if kindT ts p = stop then .ok true (p + 1) else if kindT ts p = 11 then .ok false (p + 1) else .err 2 (placeT s ts p)
/-- Is a key among those? -/
def knows (seen : List ByteArray) (t : ByteArray) : Bool := seen.any fun u => decide (u = t)
mutual
def pV (s : ByteArray) (ts : List Tk) : Nat → Nat → Nat → PR Nd
  | 0, _, _ => .out
  | f + 1, deep, p =>
    if kindT ts p = 1 then .ok (.null (placeT s ts p)) (p + 1)
    else if kindT ts p = 2 then .ok (.flag (placeT s ts p) true) (p + 1)
    else if kindT ts p = 3 then .ok (.flag (placeT s ts p) false) (p + 1)
    else if kindT ts p = 4 then .ok (.num (placeT s ts p) (wordT s ts p)) (p + 1)
    else if kindT ts p = 5 then .ok (.text (placeT s ts p) (textT ts p)) (p + 1)
    else if kindT ts p = 8 then
      if deep = 64 then .err 3 (placeT s ts p)
      else match (if kindT ts (p + 1) = 9 then .ok [] (p + 2) else pI s ts f deep (p + 1)) with
        | .ok xs q => .ok (.lst (placeT s ts p) xs) q
        | .err k pl => .err k pl
        | .out => .out
    else if kindT ts p = 6 then
      if deep = 64 then .err 3 (placeT s ts p)
      else match (if kindT ts (p + 1) = 7 then .ok [] (p + 2) else pM s ts f deep [] (p + 1)) with
        | .ok xs q => .ok (.obj (placeT s ts p) xs) q
        | .err k pl => .err k pl
        | .out => .out
    else .err 2 (placeT s ts p)
def pI (s : ByteArray) (ts : List Tk) : Nat → Nat → Nat → PR (List Nd)
  | 0, _, _ => .out
  | f + 1, deep, p => match pV s ts f (deep + 1) p with
    | .ok x q => match rest s ts 9 q with
      | .ok true q' => .ok [x] q'
      | .ok false q' => match pI s ts f deep q' with
        | .ok xs q'' => .ok (x :: xs) q''
        | .err k pl => .err k pl
        | .out => .out
      | .err k pl => .err k pl
      | .out => .out
    | .err k pl => .err k pl
    | .out => .out
def pM (s : ByteArray) (ts : List Tk) : Nat → Nat → List ByteArray → Nat → PR (List (ByteArray × Nat × Nd))
  | 0, _, _, _ => .out
  | f + 1, deep, seen, p =>
    if kindT ts p = 5 then
      if knows seen (textT ts p) = true then .err 6 (placeT s ts p)
      else if kindT ts (p + 1) = 10 then
        match pV s ts f (deep + 1) (p + 2) with
        | .ok x q => match rest s ts 7 q with
          | .ok true q' => .ok [(textT ts p, placeT s ts p, x)] q'
          | .ok false q' => match pM s ts f deep (seen ++ [textT ts p]) q' with
            | .ok xs q'' => .ok ((textT ts p, placeT s ts p, x) :: xs) q''
            | .err k pl => .err k pl
            | .out => .out
          | .err k pl => .err k pl
          | .out => .out
        | .err k pl => .err k pl
        | .out => .out
      else .err 2 (placeT s ts (p + 1))
    else .err 2 (placeT s ts p)
end
theorem kindT_lt {ts : List Tk} {p : Nat} (h : kindT ts p ≠ 0) : p < ts.length := by
  rcases Nat.lt_or_ge p ts.length with h1 | h1
  · exact h1
  · exfalso
    apply h
    unfold kindT
    rw [List.getElem?_eq_none h1]
/-- A part goes on, and not behind the end. -/
def PR.fits {α : Type} (n p : Nat) : PR α → Prop
  | .ok _ q => p < q ∧ q ≤ n
  | .err k _ => k = 2 ∨ k = 3 ∨ k = 6
  | .out => False
theorem rest_fits (s : ByteArray) (ts : List Tk) (stop p : Nat) (h : stop ≠ 0) : (rest s ts stop p).fits ts.length p := by
  unfold rest
  split
  · have := kindT_lt (ts := ts) (p := p) (by omega)
    exact ⟨by omega, by omega⟩
  · split
    · have := kindT_lt (ts := ts) (p := p) (by omega)
      exact ⟨by omega, by omega⟩
    · exact Or.inl rfl
theorem p_fits (s : ByteArray) (ts : List Tk) : ∀ f,
    (∀ deep p, 2 * (ts.length - p) + 1 ≤ f → (pV s ts f deep p).fits ts.length p) ∧
    (∀ deep p, 2 * (ts.length - p) + 2 ≤ f → (pI s ts f deep p).fits ts.length p) ∧
    (∀ deep seen p, 2 * (ts.length - p) + 2 ≤ f → (pM s ts f deep seen p).fits ts.length p)
  | 0 => ⟨fun _ _ h => by omega, fun _ _ h => by omega, fun _ _ _ h => by omega⟩
  | f + 1 => by
    obtain ⟨iV, iI, iM⟩ := p_fits s ts f
    refine ⟨?_, ?_, ?_⟩
    · intro deep p hf
      rw [pV]
      by_cases k0 : kindT ts p = 0
      · simp only [k0]
        exact Or.inl rfl
      have hlt := kindT_lt k0
      have one : p < p + 1 ∧ p + 1 ≤ ts.length := ⟨by omega, by omega⟩
      split; · exact one
      split; · exact one
      split; · exact one
      split; · exact one
      split; · exact one
      split
      · split
        · exact Or.inr (Or.inl rfl)
        · by_cases h9 : kindT ts (p + 1) = 9
          · have := kindT_lt (ts := ts) (p := p + 1) (by omega)
            rw [if_pos h9]
            exact ⟨by omega, by omega⟩
          · rw [if_neg h9]
            have := iI deep (p + 1) (by omega)
            revert this
            cases pI s ts f deep (p + 1) with
            | ok xs q => rintro ⟨h1, h2⟩; exact ⟨by omega, h2⟩
            | err k pl => exact id
            | out => exact id
      · split
        · split
          · exact Or.inr (Or.inl rfl)
          · by_cases h9 : kindT ts (p + 1) = 7
            · have := kindT_lt (ts := ts) (p := p + 1) (by omega)
              rw [if_pos h9]
              exact ⟨by omega, by omega⟩
            · rw [if_neg h9]
              have := iM deep [] (p + 1) (by omega)
              revert this
              cases pM s ts f deep [] (p + 1) with
              | ok xs q => rintro ⟨h1, h2⟩; exact ⟨by omega, h2⟩
              | err k pl => exact id
              | out => exact id
        · exact Or.inl rfl
    · intro deep p hf
      rw [pI]
      have := iV (deep + 1) p (by omega)
      revert this
      cases pV s ts f (deep + 1) p with
      | err k pl => exact id
      | out => exact id
      | ok x q =>
        rintro ⟨h1, h2⟩
        have := rest_fits s ts 9 q (by decide)
        revert this
        show _ → PR.fits ts.length p (match rest s ts 9 q with | .ok true q' => _ | .ok false q' => _ | .err k pl => _ | .out => _)
        cases rest s ts 9 q with
        | err k pl => exact id
        | out => exact id
        | ok b q' =>
          rintro ⟨h3, h4⟩
          cases b with
          | true => exact ⟨by omega, h4⟩
          | false =>
            have := iI deep q' (by omega)
            revert this
            show _ → PR.fits ts.length p (match pI s ts f deep q' with | .ok xs q'' => _ | .err k pl => _ | .out => _)
            cases pI s ts f deep q' with
            | ok xs q'' => rintro ⟨h5, h6⟩; exact ⟨by omega, h6⟩
            | err k pl => exact id
            | out => exact id
    · intro deep seen p hf
      rw [pM]
      split
      · rename_i k5
        have hlt := kindT_lt (ts := ts) (p := p) (by omega)
        split
        · exact Or.inr (Or.inr rfl)
        · split
          · rename_i k10
            have hlt2 := kindT_lt (ts := ts) (p := p + 1) (by omega)
            have := iV (deep + 1) (p + 2) (by omega)
            revert this
            cases pV s ts f (deep + 1) (p + 2) with
            | err k pl => exact id
            | out => exact id
            | ok x q =>
              rintro ⟨h1, h2⟩
              have := rest_fits s ts 7 q (by decide)
              revert this
              show _ → PR.fits ts.length p (match rest s ts 7 q with | .ok true q' => _ | .ok false q' => _ | .err k pl => _ | .out => _)
              cases rest s ts 7 q with
              | err k pl => exact id
              | out => exact id
              | ok b q' =>
                rintro ⟨h3, h4⟩
                cases b with
                | true => exact ⟨by omega, h4⟩
                | false =>
                  have := iM deep (seen ++ [textT ts p]) q' (by omega)
                  revert this
                  show _ → PR.fits ts.length p (match pM s ts f deep (seen ++ [textT ts p]) q' with | .ok xs q'' => _ | .err k pl => _ | .out => _)
                  cases pM s ts f deep (seen ++ [textT ts p]) q' with
                  | ok xs q'' => rintro ⟨h5, h6⟩; exact ⟨by omega, h6⟩
                  | err k pl => exact id
                  | out => exact id
          · exact Or.inl rfl
      · exact Or.inl rfl
/-- The same, whatever the fuel. -/
def PR.goes {α : Type} (n p : Nat) : PR α → Prop
  | .ok _ q => p < q ∧ q ≤ n
  | .err k _ => k = 2 ∨ k = 3 ∨ k = 6
  | .out => True
theorem p_goes (s : ByteArray) (ts : List Tk) : ∀ f,
    (∀ deep p, (pV s ts f deep p).goes ts.length p) ∧
    (∀ deep p, (pI s ts f deep p).goes ts.length p) ∧
    (∀ deep seen p, (pM s ts f deep seen p).goes ts.length p)
  | 0 => ⟨fun _ _ => by rw [pV]; trivial, fun _ _ => by rw [pI]; trivial, fun _ _ _ => by rw [pM]; trivial⟩
  | f + 1 => by
    obtain ⟨iV, iI, iM⟩ := p_goes s ts f
    refine ⟨?_, ?_, ?_⟩
    · intro deep p
      rw [pV]
      by_cases k0 : kindT ts p = 0
      · simp only [k0]
        exact Or.inl rfl
      have hlt := kindT_lt k0
      have one : p < p + 1 ∧ p + 1 ≤ ts.length := ⟨by omega, by omega⟩
      split; · exact one
      split; · exact one
      split; · exact one
      split; · exact one
      split; · exact one
      split
      · split
        · exact Or.inr (Or.inl rfl)
        · by_cases h9 : kindT ts (p + 1) = 9
          · have := kindT_lt (ts := ts) (p := p + 1) (by omega)
            rw [if_pos h9]
            exact ⟨by omega, by omega⟩
          · rw [if_neg h9]
            have := iI deep (p + 1)
            revert this
            cases pI s ts f deep (p + 1) with
            | ok xs q => rintro ⟨h1, h2⟩; exact ⟨by omega, h2⟩
            | err k pl => exact id
            | out => exact fun _ => trivial
      · split
        · split
          · exact Or.inr (Or.inl rfl)
          · by_cases h9 : kindT ts (p + 1) = 7
            · have := kindT_lt (ts := ts) (p := p + 1) (by omega)
              rw [if_pos h9]
              exact ⟨by omega, by omega⟩
            · rw [if_neg h9]
              have := iM deep [] (p + 1)
              revert this
              cases pM s ts f deep [] (p + 1) with
              | ok xs q => rintro ⟨h1, h2⟩; exact ⟨by omega, h2⟩
              | err k pl => exact id
              | out => exact fun _ => trivial
        · exact Or.inl rfl
    · intro deep p
      rw [pI]
      have := iV (deep + 1) p
      revert this
      cases pV s ts f (deep + 1) p with
      | err k pl => exact id
      | out => exact fun _ => trivial
      | ok x q =>
        rintro ⟨h1, h2⟩
        have := rest_fits s ts 9 q (by decide)
        revert this
        show _ → PR.goes ts.length p (match rest s ts 9 q with | .ok true q' => _ | .ok false q' => _ | .err k pl => _ | .out => _)
        cases rest s ts 9 q with
        | err k pl => exact id
        | out => exact fun _ => trivial
        | ok b q' =>
          rintro ⟨h3, h4⟩
          cases b with
          | true => exact ⟨by omega, h4⟩
          | false =>
            have := iI deep q'
            revert this
            show _ → PR.goes ts.length p (match pI s ts f deep q' with | .ok xs q'' => _ | .err k pl => _ | .out => _)
            cases pI s ts f deep q' with
            | ok xs q'' => rintro ⟨h5, h6⟩; exact ⟨by omega, h6⟩
            | err k pl => exact id
            | out => exact fun _ => trivial
    · intro deep seen p
      rw [pM]
      split
      · rename_i k5
        have hlt := kindT_lt (ts := ts) (p := p) (by omega)
        split
        · exact Or.inr (Or.inr rfl)
        · split
          · rename_i k10
            have hlt2 := kindT_lt (ts := ts) (p := p + 1) (by omega)
            have := iV (deep + 1) (p + 2)
            revert this
            cases pV s ts f (deep + 1) (p + 2) with
            | err k pl => exact id
            | out => exact fun _ => trivial
            | ok x q =>
              rintro ⟨h1, h2⟩
              have := rest_fits s ts 7 q (by decide)
              revert this
              show _ → PR.goes ts.length p (match rest s ts 7 q with | .ok true q' => _ | .ok false q' => _ | .err k pl => _ | .out => _)
              cases rest s ts 7 q with
              | err k pl => exact id
              | out => exact fun _ => trivial
              | ok b q' =>
                rintro ⟨h3, h4⟩
                cases b with
                | true => exact ⟨by omega, h4⟩
                | false =>
                  have := iM deep (seen ++ [textT ts p]) q'
                  revert this
                  show _ → PR.goes ts.length p (match pM s ts f deep (seen ++ [textT ts p]) q' with | .ok xs q'' => _ | .err k pl => _ | .out => _)
                  cases pM s ts f deep (seen ++ [textT ts p]) q' with
                  | ok xs q'' => rintro ⟨h5, h6⟩; exact ⟨by omega, h6⟩
                  | err k pl => exact id
                  | out => exact fun _ => trivial
          · exact Or.inl rfl
      · exact Or.inl rfl
/-- The whole parser, the tokens at hand. -/
def pP (s : ByteArray) (ts : List Tk) : PR Nd := match pV s ts (2 * ts.length + 1) 0 0 with
  | .ok x q => if q < ts.length then .err 2 (placeT s ts q) else .ok x q
  | .err k pl => .err k pl
  | .out => .out
theorem pV_fits (s : ByteArray) (ts : List Tk) : (pV s ts (2 * ts.length + 1) 0 0).fits ts.length 0 := (p_fits s ts _).1 0 0 (by omega)
theorem pP_fits (s : ByteArray) (ts : List Tk) : (pP s ts).fits ts.length 0 := by
  have := pV_fits s ts
  unfold pP
  revert this
  cases pV s ts (2 * ts.length + 1) 0 0 with
  | err k pl => exact id
  | out => exact id
  | ok x q =>
    intro h
    show PR.fits ts.length 0 (if q < ts.length then _ else _)
    split
    · exact Or.inl rfl
    · exact h

end Go.Proofs.YtibopkodoidjoaaGreatDoor

/- Package tree: the parser takes a token. -/
namespace Go.Proofs.YtibopkodoidjoaaGreatDoor
open Go Go.RowKit

theorem PsB.set {s : ByteArray} {v : Value} {p q b : Nat} {w : World} (h : PsB s v p b w) : PsB s v q b (w.setCell ⟨b, 2, none⟩ (.int .i64 (q : Int))) := by
  unfold PsB at h ⊢
  rw [Lib.heap_setCell_same (i := 2) h]
  rfl
theorem PsB.setOther {s : ByteArray} {v : Value} {p b c : Nat} {w : World} (h : PsB s v p b w) (hc : b ≠ c) (i : Nat) (u : Value) : PsB s v p b (w.setCell ⟨c, i, none⟩ u) := by
  unfold PsB at h ⊢
  rw [Below.heap_setCell _ _ _ _ (fun e => hc (by first | exact e | exact e.symm)), h]
theorem _root_.Go.World.grownBy.setNew {a w : World} {b : Nat} (h : a.grownBy w (some b)) {c : Nat} (hc : a.heap.size ≤ c) (i : Nat) (u : Value) : a.grownBy (w.setCell ⟨c, i, none⟩ u) (some b) := by
  have hs := grown_set w c i u
  refine ⟨hs.os.trans h.os, hs.tape.trans h.tape, hs.output.trans h.output, Nat.le_trans h.size hs.size, fun k hk hr => ?_⟩
  rw [hs.block k (Nat.lt_of_lt_of_le hk h.size) (fun e => by cases e; omega), h.block k hk hr]
theorem OwnT.grown {w w' : World} {base b : Nat} {v : Value} {ts : List Tk} (h : OwnT w base v ts) (hg : w.grownBy w' (some b)) (hb : b ∉ v.ownBlock) : OwnT w' base v ts :=
  World.ownsRow.kept h hg (by
    rcases h.form with ⟨rfl, rfl⟩ | ⟨g, cap, rfl, _⟩
    · exact Or.inl rfl
    · exact Or.inr (fun e => hb (by cases e; rfl)))
set_option maxHeartbeats 1000000 in
set_option maxRecDepth 100000 in
theorem take_bad {A : Nat → Addr} {B base : Nat} {v : Value} {ts : List Tk} (s : ByteArray) (k p b : Nat) (w : World) (hE : Env A B SVN w) (hp : p ≤ ts.length) (hsc : PsB s v p b w) (ho : OwnT w base v ts) (hk : kindT ts p ≠ k) :
    Calls Tryz.prog 58 #[.pointer (some ⟨b, 0, none⟩), .int .i64 (k : Int)] w fun e w' => GaveUp A w.heap.size 2 (placeT s ts p) e w' ∧ Below w.heap.size w w' := by
  have N := Lib.hid (fun w hsc ho => tnext_calls (base := base) (v := v) (ts := ts) s p b w hp hsc ho)
  have Pl := Lib.hid (fun w hsc ho => tplace_calls (base := base) (v := v) (ts := ts) s p b w hp hsc ho)
  have F := Lib.hid (fun n w => fail_calls A 2 n w)
  replace hsc := Lib.hid hsc
  replace ho := Lib.hid ho
  replace hE := Lib.hid hE
  have hne : ((kindT ts p : Int) == (k : Int)) = false := by simp; omega
  have hne' : ¬ (kindT ts p : Int) = (k : Int) := by omega
  replace hk := Lib.hid hk
  generalize kindT ts p = K at *
  go_enter Tryz.func58, Tryz.ntmps58
  (go_wp2_with fail; repeat (any_goals (go_quiet (fail); go_wp2_with fail)))
  refine (N.out _ (hsc.out.next (by repeat (first | assumption | exact Below.refl _ _ | apply Below.drew | apply below_drewN | apply balloc | (refine Below.setCell ?_ (by first | omega | (simp <;> omega)) _)))) (ho.out.next (by repeat (first | assumption | exact Below.refl _ _ | apply Below.drew | apply below_drewN | apply balloc | (refine Below.setCell ?_ (by first | omega | (simp <;> omega)) _))))).mono ?_
  rintro e w1 ⟨rfl, hb⟩
  have hb1 : Below w.heap.size w w1 := bcall (by repeat (first | assumption | exact Below.refl _ _ | apply Below.drew | apply below_drewN | apply balloc | (refine Below.setCell ?_ (by first | omega | (simp <;> omega)) _))) hb
  clear hb
  (go_wp2_with fail; repeat (any_goals (go_quiet (fail); go_wp2_with fail)))
  have x0 := (hE.out.next hb1).e2
  go_region_dies
  all_goals
    refine (Pl.out _ (hsc.out.next (by repeat (first | assumption | exact Below.refl _ _ | apply Below.drew | apply below_drewN | apply balloc | (refine Below.setCell ?_ (by first | omega | (simp <;> omega)) _)))) (ho.out.next (by repeat (first | assumption | exact Below.refl _ _ | apply Below.drew | apply below_drewN | apply balloc | (refine Below.setCell ?_ (by first | omega | (simp <;> omega)) _))))).mono ?_
    rintro e w2 ⟨rfl, hb⟩
    have hb2 : Below w.heap.size w w2 := bcall (by repeat (first | assumption | exact Below.refl _ _ | apply Below.drew | apply below_drewN | apply balloc | (refine Below.setCell ?_ (by first | omega | (simp <;> omega)) _))) hb
    clear hb
    have x1 := (hE.out.next hb2).e2
    rename_i K9 hK9
    refine hK9 _ _ ?_
    clear hK9 K9
  · (refine wpAny_ready (rs := [2]) (by kernel_rfl) (by simp) ?_; refine AllReady.cons rfl (fun K hK => ?_) AllReady.nil; go_simp)
    refine hK _ _ ?_
    clear hK K
    (refine wpAny_ready (rs := [3]) (by kernel_rfl) (by simp) ?_; refine AllReady.cons rfl (fun K hK => ?_) AllReady.nil; go_simp)
    refine (F.out _ _).mono ?_
    rintro e w8 ⟨⟨g, hg, rfl, hat⟩, hb⟩
    have hz := hb2.size
    exact ⟨rfl, ⟨g, by omega, rfl, hat⟩, bcall hb2 hb⟩
  · (refine wpAny_ready (rs := [3]) (by kernel_rfl) (by simp) ?_; refine AllReady.cons rfl (fun K hK => ?_) AllReady.nil; go_simp)
    refine (F.out _ _).mono ?_
    rintro e w8 ⟨⟨g, hg, rfl, hat⟩, hb⟩
    have hz := hb2.size
    exact ⟨rfl, ⟨g, by omega, rfl, hat⟩, bcall hb2 hb⟩
set_option maxHeartbeats 1000000 in
set_option maxRecDepth 100000 in
theorem take_ok {base : Nat} {v : Value} {ts : List Tk} {T : Tk} (s : ByteArray) (k p b : Nat) (w : World) (hT : ts[p]? = some T) (hsc : PsB s v p b w) (ho : OwnT w base v ts) (hbn : b ∉ v.ownBlock) (hk : T.kind = k) :
    Calls Tryz.prog 58 #[.pointer (some ⟨b, 0, none⟩), .int .i64 (k : Int)] w fun e w' => e = .returned (tkV T) ∧ PsB s v (p + 1) b w' ∧ w.grownBy w' (some b) := by
  have hpl : p < ts.length := (List.getElem?_eq_some_iff.1 hT).1
  have N := Lib.hid (fun w hsc ho => tnext_calls (base := base) (v := v) (ts := ts) s p b w (Nat.le_of_lt hpl) hsc ho)
  have hkT : kindT ts p = k := by unfold kindT; rw [hT]; exact hk
  rw [hkT] at N
  rcases ho.form with ⟨rfl, rfl⟩ | ⟨g, cap, rfl, hbg, hgl, hnl, hcm⟩
  · simp at hpl
  unfold tkV
  rw [hk]
  have hgb : g ≠ b := fun e => hbn (by rw [e]; rfl)
  have hbl := ltB hsc
  have hpl' : (p : Int) < (ts.length : Int) := by omega
  unfold maxLen at hcm
  obtain ⟨n, hn⟩ : ∃ n, n = ts.length := ⟨_, rfl⟩
  rw [← hn] at ho hsc hnl hpl hpl' N
  have hcells := Lib.hid (fun w (ho : OwnT w base (.slice (some ⟨g, 0, none⟩) n cap) ts) => OwnT.at ho hT)
  have hke : (k : Int) = (T.kind : Int) := by rw [hk]
  replace hsc := Lib.hid hsc
  replace ho := Lib.hid ho
  replace hT := Lib.hid hT
  replace hk := Lib.hid hk
  replace hkT := Lib.hid hkT
  replace hn := Lib.hid hn
  have hke := Lib.hid hke
  have hbn := Lib.hid hbn
  go_enter Tryz.func58, Tryz.ntmps58
  (go_wp2_with fail; repeat (any_goals (go_quiet (fail); go_wp2_with fail)))
  refine (N.out _ (hsc.out.next (by repeat (first | assumption | exact Below.refl _ _ | apply Below.drew | apply below_drewN | apply balloc | (refine Below.setCell ?_ (by first | omega | (simp <;> omega)) _)))) (ho.out.next (by repeat (first | assumption | exact Below.refl _ _ | apply Below.drew | apply below_drewN | apply balloc | (refine Below.setCell ?_ (by first | omega | (simp <;> omega)) _))))).mono ?_
  rintro e w1 ⟨rfl, hb⟩
  have hb1 : Below w.heap.size w w1 := bcall (by repeat (first | assumption | exact Below.refl _ _ | apply Below.drew | apply below_drewN | apply balloc | (refine Below.setCell ?_ (by first | omega | (simp <;> omega)) _))) hb
  have t0 : w1.heap[w.heap.size]? = some (.cells #[.int .i64 0, .int .i64 0, .int .i64 0, .string ⟨#[]⟩] 59 (0, 0)) := boxed hb
  clear hb
  have hsc1 := hsc.out.next hb1
  obtain ⟨y0, y1, y2, y3⟩ := hcells.out _ (ho.out.next hb1)
  have x1 := hsc1.c1
  have x2 := hsc1.c2
  have f2 := freeB hsc1 2
  have t1 := freeB t0 0
  have t2 := freeB t0 1
  have t3 := freeB t0 2
  have t4 := freeB t0 3
  have u1 : w1.cell? ⟨w.heap.size, 0, none⟩ = some (.int .i64 0) := cellB t0 0 rfl
  have u2 : w1.cell? ⟨w.heap.size, 1, none⟩ = some (.int .i64 0) := cellB t0 1 rfl
  have u3 : w1.cell? ⟨w.heap.size, 2, none⟩ = some (.int .i64 0) := cellB t0 2 rfl
  have u4 : w1.cell? ⟨w.heap.size, 3, none⟩ = some (.string ⟨#[]⟩) := cellB t0 3 rfl
  have hbs : b ≠ w.heap.size := by omega
  have hsz := hb1.size
  replace hsc1 := Lib.hid hsc1
  replace t0 := Lib.hid t0
  (go_wp2_with fail; repeat (any_goals (go_quiet (fail); go_wp2_with fail)))
  go_region
  (go_wp2_with fail; repeat (any_goals (go_quiet (fail); go_wp2_with fail)))
  refine bodyPost_ret (v := .agg #[.int .i64 (T.kind : Int), .int .i64 (T.fr : Int), .int .i64 (T.to : Int), .string T.text]) (by simp [results, Tryz.results58, go_sem, *]) rfl ?_
  refine ⟨by rw [hke.out], ?_, ?_⟩
  · have h1 := (((((hsc1.out.set (q := p + 1)).setOther (c := w.heap.size) hbs 0 (.int .i64 (T.kind : Int))).setOther (c := w.heap.size) hbs 1 (.int .i64 (T.fr : Int))).setOther (c := w.heap.size) hbs 2 (.int .i64 (T.to : Int))).setOther (c := w.heap.size) hbs 3 (.string T.text))
    rw [hn.out] at h1
    exact h1
  · have h1 := grown_trans (grown_of_below (r := some b) hb1) (grown_set w1 b 2 (.int .i64 ((p : Int) + 1)))
    exact grown_drew ((((h1.setNew (Nat.le_refl _) 0 (.int .i64 (T.kind : Int))).setNew (Nat.le_refl _) 1 (.int .i64 (T.fr : Int))).setNew (Nat.le_refl _) 2 (.int .i64 (T.to : Int))).setNew (Nat.le_refl _) 3 (.string T.text))

end Go.Proofs.YtibopkodoidjoaaGreatDoor

/- The reference's tree: the reader's small functions. -/
namespace Go.Proofs.YtibopkodoidjoaaGreatDoor
open Go Go.RowKit

/-- The reader's block. -/
def RdB (s : ByteArray) (v : Value) (p pl k b : Nat) (w : World) : Prop := w.heap[b]? = some (.cells #[.string s, v, .int .i64 (p : Int), .int .i64 (pl : Int), .int .i64 (k : Int)] 80 (0, 0))
theorem RdB.next {s : ByteArray} {v : Value} {p pl k b : Nat} {w w' : World} (h : RdB s v p pl k b w) (hb : Below w.heap.size w w') : RdB s v p pl k b w' := box_next h hb
theorem RdB.c0 {s : ByteArray} {v : Value} {p pl k b : Nat} {w : World} (h : RdB s v p pl k b w) : w.cell? ⟨b, 0, none⟩ = some (.string s) := cellB h 0 rfl
theorem RdB.c1 {s : ByteArray} {v : Value} {p pl k b : Nat} {w : World} (h : RdB s v p pl k b w) : w.cell? ⟨b, 1, none⟩ = some v := cellB h 1 rfl
theorem RdB.c2 {s : ByteArray} {v : Value} {p pl k b : Nat} {w : World} (h : RdB s v p pl k b w) : w.cell? ⟨b, 2, none⟩ = some (.int .i64 (p : Int)) := cellB h 2 rfl
theorem RdB.c3 {s : ByteArray} {v : Value} {p pl k b : Nat} {w : World} (h : RdB s v p pl k b w) : w.cell? ⟨b, 3, none⟩ = some (.int .i64 (pl : Int)) := cellB h 3 rfl
theorem RdB.c4 {s : ByteArray} {v : Value} {p pl k b : Nat} {w : World} (h : RdB s v p pl k b w) : w.cell? ⟨b, 4, none⟩ = some (.int .i64 (k : Int)) := cellB h 4 rfl
theorem RdB.set2 {s : ByteArray} {v : Value} {p pl k b q : Nat} {w : World} (h : RdB s v p pl k b w) : RdB s v q pl k b (w.setCell ⟨b, 2, none⟩ (.int .i64 (q : Int))) := by
  unfold RdB at h ⊢
  rw [Lib.heap_setCell_same (i := 2) h]
  rfl
theorem RdB.set3 {s : ByteArray} {v : Value} {p pl k b q : Nat} {w : World} (h : RdB s v p pl k b w) : RdB s v p q k b (w.setCell ⟨b, 3, none⟩ (.int .i64 (q : Int))) := by
  unfold RdB at h ⊢
  rw [Lib.heap_setCell_same (i := 3) h]
  rfl
theorem RdB.set4 {s : ByteArray} {v : Value} {p pl k b q : Nat} {w : World} (h : RdB s v p pl k b w) : RdB s v p pl q b (w.setCell ⟨b, 4, none⟩ (.int .i64 (q : Int))) := by
  unfold RdB at h ⊢
  rw [Lib.heap_setCell_same (i := 4) h]
  rfl
/-- The reader's world: its block, the tokens. -/
structure RdW (base : Nat) (s : ByteArray) (v : Value) (ts : List Tk) (p pl k b : Nat) (w : World) : Prop where
  rd : RdB s v p pl k b w
  own : OwnT w base v ts
  nb : b ∉ v.ownBlock
  hp : p ≤ ts.length
  hl : ts.length ≤ 3518437208883
theorem RdW.next {base : Nat} {s : ByteArray} {v : Value} {ts : List Tk} {p pl k b : Nat} {w w' : World} (h : RdW base s v ts p pl k b w) (hb : Below w.heap.size w w') : RdW base s v ts p pl k b w' := ⟨h.rd.next hb, h.own.next hb, h.nb, h.hp, h.hl⟩
theorem RdW.lt {base : Nat} {s : ByteArray} {v : Value} {ts : List Tk} {p pl k b : Nat} {w : World} (h : RdW base s v ts p pl k b w) : b < w.heap.size := ltB h.rd
theorem RdW.step {base : Nat} {s : ByteArray} {v : Value} {ts : List Tk} {p pl k q pl' k' b : Nat} {w w' : World} (h : RdW base s v ts p pl k b w) (hg : w.grownBy w' (some b)) (hq : RdB s v q pl' k' b w') (hl : q ≤ ts.length) : RdW base s v ts q pl' k' b w' :=
  ⟨hq, h.own.grown hg h.nb, h.nb, hl, h.hl⟩
set_option maxHeartbeats 1000000 in
theorem rfail_new (s : ByteArray) (v : Value) (p pl b q k : Nat) (w : World) (hr : RdB s v p pl 0 b w) :
    Calls Tryz.prog 35 #[.pointer (some ⟨b, 0, none⟩), .int .i64 (q : Int), .int .i64 (k : Int)] w fun e w' => e = .returned (.tuple #[]) ∧ RdB s v p q k b w' ∧ w.grownBy w' (some b) := by
  have x4 := hr.c4
  have x3 := hr.c3
  have f3 := freeB hr 3
  have f4 := freeB hr 4
  have hbl := ltB hr
  have hr0 := hr.set3 (q := q)
  have g4 := freeB hr0 4
  have z4 := hr0.c4
  have hr1 := Lib.hid (hr0.set4 (q := k))
  replace hr0 := Lib.hid hr0
  replace hr := Lib.hid hr
  go_enter Tryz.func35, Tryz.ntmps35
  (go_wp2_with fail; repeat (any_goals (go_quiet (fail); go_wp2_with fail)))
  refine ⟨rfl, .tuple #[], by kernel_rfl, rfl, ?_⟩
  exact ⟨hr1.out, grown_trans (grown_set _ _ _ _) (grown_set _ _ _ _)⟩
set_option maxHeartbeats 1000000 in
theorem rfail_old (s : ByteArray) (v : Value) (p pl b q k k0 : Nat) (w : World) (hr : RdB s v p pl k0 b w) (h0 : k0 ≠ 0) :
    Calls Tryz.prog 35 #[.pointer (some ⟨b, 0, none⟩), .int .i64 (q : Int), .int .i64 (k : Int)] w fun e w' => e = .returned (.tuple #[]) ∧ Below w.heap.size w w' := by
  have x4 := hr.c4
  have hbl := ltB hr
  have h1 : ((k0 : Int) == 0) = false := by simp; omega
  have h1' : ¬ (k0 : Int) = 0 := by omega
  replace hr := Lib.hid hr
  go_enter Tryz.func35, Tryz.ntmps35
  (go_wp2_with fail; repeat (any_goals (go_quiet (fail); go_wp2_with fail)))
  refine ⟨rfl, .tuple #[], by kernel_rfl, rfl, ?_⟩
  exact (by repeat (first | assumption | exact Below.refl _ _ | apply Below.drew | apply below_drewN | apply balloc | (refine Below.setCell ?_ (by first | omega | (simp <;> omega)) _)))
set_option maxHeartbeats 1000000 in
set_option maxRecDepth 100000 in
theorem peek_calls {base : Nat} {v : Value} {ts : List Tk} (s : ByteArray) (p pl k b : Nat) (w : World) (hW : RdW base s v ts p pl k b w) :
    Calls Tryz.prog 61 #[.pointer (some ⟨b, 0, none⟩)] w fun e w' => e = .returned (.int .i64 (kindT ts p : Int)) ∧ Below w.heap.size w w' := by
  obtain ⟨hr, ho, hnb, hp, hl⟩ := hW
  have x0 := hr.c0
  have x1 := hr.c1
  have x2 := hr.c2
  have hbl := ltB hr
  replace hr := Lib.hid hr
  by_cases h : p = ts.length
  · have hk : kindT ts p = 0 := by unfold kindT; rw [List.getElem?_eq_none (by omega)]
    rw [hk]
    obtain ⟨a, c, rfl⟩ := ho.form2
    replace ho := Lib.hid ho
    have he : ((p : Int) == (ts.length : Int)) = true := by simp; omega
    have he' : (p : Int) = (ts.length : Int) := by omega
    replace h := Lib.hid h
    replace hk := Lib.hid hk
    generalize ts.length = n at *
    go_enter Tryz.func61, Tryz.ntmps61
    (go_wp2_with fail; repeat (any_goals (go_quiet (fail); go_wp2_with fail)))
    go_ret
    exact ⟨rfl, (by repeat (first | assumption | exact Below.refl _ _ | apply Below.drew | apply below_drewN | apply balloc | (refine Below.setCell ?_ (by first | omega | (simp <;> omega)) _)))⟩
  · rcases ho.form with ⟨rfl, rfl⟩ | ⟨g, cap, rfl, hbg, hgl, hnl, hcm⟩
    · simp at hp h; omega
    have hT : ts[p]? = some (ts[p]'(by omega)) := List.getElem?_eq_getElem _
    have hk : kindT ts p = (ts[p]'(by omega)).kind := by unfold kindT; rw [hT]
    rw [hk]
    obtain ⟨y0, y1, _, _⟩ := ho.at hT
    generalize ts[p]'(by omega) = T at *
    have he : ((p : Int) == (ts.length : Int)) = false := by simp; omega
    have he' : ¬ (p : Int) = (ts.length : Int) := by omega
    have hlt : (p : Int) < (ts.length : Int) := by omega
    unfold maxLen at hcm
    replace h := Lib.hid h
    replace hk := Lib.hid hk
    replace hT := Lib.hid hT
    replace ho := Lib.hid ho
    generalize ts.length = n at *
    go_enter Tryz.func61, Tryz.ntmps61
    (go_wp2_with fail; repeat (any_goals (go_quiet (fail); go_wp2_with fail)))
    go_ret
    exact ⟨rfl, (by repeat (first | assumption | exact Below.refl _ _ | apply Below.drew | apply below_drewN | apply balloc | (refine Below.setCell ?_ (by first | omega | (simp <;> omega)) _)))⟩
set_option maxHeartbeats 1000000 in
set_option maxRecDepth 100000 in
theorem here_calls {base : Nat} {v : Value} {ts : List Tk} (s : ByteArray) (p pl k b : Nat) (w : World) (hW : RdW base s v ts p pl k b w) :
    Calls Tryz.prog 36 #[.pointer (some ⟨b, 0, none⟩)] w fun e w' => e = .returned (.int .i64 (placeT s ts p : Int)) ∧ Below w.heap.size w w' := by
  obtain ⟨hr, ho, hnb, hp, hl⟩ := hW
  have x0 := hr.c0
  have x1 := hr.c1
  have x2 := hr.c2
  have hbl := ltB hr
  replace hr := Lib.hid hr
  by_cases h : p = ts.length
  · have hk : placeT s ts p = s.size := by unfold placeT; rw [List.getElem?_eq_none (by omega)]
    rw [hk]
    obtain ⟨a, c, rfl⟩ := ho.form2
    replace ho := Lib.hid ho
    have he : ((p : Int) == (ts.length : Int)) = true := by simp; omega
    have he' : (p : Int) = (ts.length : Int) := by omega
    replace h := Lib.hid h
    replace hk := Lib.hid hk
    generalize ts.length = n at *
    go_enter Tryz.func36, Tryz.ntmps36
    (go_wp2_with fail; repeat (any_goals (go_quiet (fail); go_wp2_with fail)))
    go_ret
    exact ⟨rfl, (by repeat (first | assumption | exact Below.refl _ _ | apply Below.drew | apply below_drewN | apply balloc | (refine Below.setCell ?_ (by first | omega | (simp <;> omega)) _)))⟩
  · rcases ho.form with ⟨rfl, rfl⟩ | ⟨g, cap, rfl, hbg, hgl, hnl, hcm⟩
    · simp at hp h; omega
    have hT : ts[p]? = some (ts[p]'(by omega)) := List.getElem?_eq_getElem _
    have hk : placeT s ts p = (ts[p]'(by omega)).fr := by unfold placeT; rw [hT]
    rw [hk]
    obtain ⟨y0, y1, _, _⟩ := ho.at hT
    generalize ts[p]'(by omega) = T at *
    have he : ((p : Int) == (ts.length : Int)) = false := by simp; omega
    have he' : ¬ (p : Int) = (ts.length : Int) := by omega
    have hlt : (p : Int) < (ts.length : Int) := by omega
    unfold maxLen at hcm
    replace h := Lib.hid h
    replace hk := Lib.hid hk
    replace hT := Lib.hid hT
    replace ho := Lib.hid ho
    generalize ts.length = n at *
    go_enter Tryz.func36, Tryz.ntmps36
    (go_wp2_with fail; repeat (any_goals (go_quiet (fail); go_wp2_with fail)))
    go_ret
    exact ⟨rfl, (by repeat (first | assumption | exact Below.refl _ _ | apply Below.drew | apply below_drewN | apply balloc | (refine Below.setCell ?_ (by first | omega | (simp <;> omega)) _)))⟩
set_option maxHeartbeats 1000000 in
set_option maxRecDepth 100000 in
theorem want_old {base : Nat} {v : Value} {ts : List Tk} (s : ByteArray) (p pl k b K : Nat) (w : World) (hW : RdW base s v ts p pl k b w) (h0 : k ≠ 0) :
    Calls Tryz.prog 84 #[.pointer (some ⟨b, 0, none⟩), .int .i64 (K : Int)] w fun e w' => e = .returned (.tuple #[]) ∧ Below w.heap.size w w' := by
  have x4 := hW.rd.c4
  have hbl := hW.lt
  have h1 : ((k : Int) == 0) = false := by simp; omega
  have h1' : ¬ (k : Int) = 0 := by omega
  replace hW := Lib.hid hW
  go_enter Tryz.func84, Tryz.ntmps84
  (go_wp2_with fail; repeat (any_goals (go_quiet (fail); go_wp2_with fail)))
  refine ⟨rfl, .tuple #[], by kernel_rfl, rfl, ?_⟩
  exact (by repeat (first | assumption | exact Below.refl _ _ | apply Below.drew | apply below_drewN | apply balloc | (refine Below.setCell ?_ (by first | omega | (simp <;> omega)) _)))
set_option maxHeartbeats 1000000 in
set_option maxRecDepth 100000 in
theorem want_ok {base : Nat} {v : Value} {ts : List Tk} (s : ByteArray) (p pl b K : Nat) (w : World) (hW : RdW base s v ts p pl 0 b w) (hk : kindT ts p = K) (hK : K ≠ 0) :
    Calls Tryz.prog 84 #[.pointer (some ⟨b, 0, none⟩), .int .i64 (K : Int)] w fun e w' => e = .returned (.tuple #[]) ∧ RdW base s v ts (p + 1) pl 0 b w' ∧ w.grownBy w' (some b) := by
  have hpl : p < ts.length := kindT_lt (by omega)
  have N := Lib.hid (fun w hW => peek_calls (base := base) (v := v) (ts := ts) s p pl 0 b w hW)
  rw [hk] at N
  have x4 := hW.rd.c4
  have hbl := hW.lt
  have hpb : (p : Int) + 1 ≤ 3518437208883 := by have := hW.hl; omega
  replace hW := Lib.hid hW
  replace hk := Lib.hid hk
  replace hK := Lib.hid hK
  go_enter Tryz.func84, Tryz.ntmps84
  (go_wp2_with fail; repeat (any_goals (go_quiet (fail); go_wp2_with fail)))
  refine (N.out _ (hW.out.next (by repeat (first | assumption | exact Below.refl _ _ | apply Below.drew | apply below_drewN | apply balloc | (refine Below.setCell ?_ (by first | omega | (simp <;> omega)) _))))).mono ?_
  rintro e w1 ⟨rfl, hb⟩
  have hb1 : Below w.heap.size w w1 := bcall (by repeat (first | assumption | exact Below.refl _ _ | apply Below.drew | apply below_drewN | apply balloc | (refine Below.setCell ?_ (by first | omega | (simp <;> omega)) _))) hb
  clear hb
  have hW1 := hW.out.next hb1
  have x2 := hW1.rd.c2
  have f2 := freeB hW1.rd 2
  have hbl1 := hW1.lt
  replace hW1 := Lib.hid hW1
  (go_wp2_with fail; repeat (any_goals (go_quiet (fail); go_wp2_with fail)))
  refine ⟨rfl, .tuple #[], by kernel_rfl, rfl, ?_⟩
  exact ⟨hW1.out.step (grown_set _ _ _ _) hW1.out.rd.set2 (by omega), grown_trans (grown_of_below hb1) (grown_set _ _ _ _)⟩
set_option maxHeartbeats 1000000 in
set_option maxRecDepth 100000 in
theorem want_bad {base : Nat} {v : Value} {ts : List Tk} (s : ByteArray) (p pl b K : Nat) (w : World) (hW : RdW base s v ts p pl 0 b w) (hk : kindT ts p ≠ K) :
    Calls Tryz.prog 84 #[.pointer (some ⟨b, 0, none⟩), .int .i64 (K : Int)] w fun e w' => e = .returned (.tuple #[]) ∧ RdW base s v ts p (placeT s ts p) 2 b w' ∧ w.grownBy w' (some b) := by
  have N := Lib.hid (fun w hW => peek_calls (base := base) (v := v) (ts := ts) s p pl 0 b w hW)
  have H := Lib.hid (fun w hW => here_calls (base := base) (v := v) (ts := ts) s p pl 0 b w hW)
  have F := Lib.hid (fun q w hW => rfail_new s v p pl b q 2 w hW)
  have x4 := hW.rd.c4
  have hbl := hW.lt
  have hne : ((kindT ts p : Int) == (K : Int)) = false := by simp; omega
  have hne' : ¬ (kindT ts p : Int) = (K : Int) := by omega
  obtain ⟨K1, hK1⟩ : ∃ K1, K1 = kindT ts p := ⟨_, rfl⟩
  obtain ⟨P1, hP1⟩ : ∃ P1, P1 = placeT s ts p := ⟨_, rfl⟩
  rw [← hK1] at hne hne' N
  rw [← hP1] at H ⊢
  replace hW := Lib.hid hW
  replace hk := Lib.hid hk
  replace hK1 := Lib.hid hK1
  replace hP1 := Lib.hid hP1
  go_enter Tryz.func84, Tryz.ntmps84
  (go_wp2_with fail; repeat (any_goals (go_quiet (fail); go_wp2_with fail)))
  refine (N.out _ (hW.out.next (by repeat (first | assumption | exact Below.refl _ _ | apply Below.drew | apply below_drewN | apply balloc | (refine Below.setCell ?_ (by first | omega | (simp <;> omega)) _))))).mono ?_
  rintro e w1 ⟨rfl, hb⟩
  have hb1 : Below w.heap.size w w1 := bcall (by repeat (first | assumption | exact Below.refl _ _ | apply Below.drew | apply below_drewN | apply balloc | (refine Below.setCell ?_ (by first | omega | (simp <;> omega)) _))) hb
  clear hb
  (go_wp2_with fail; repeat (any_goals (go_quiet (fail); go_wp2_with fail)))
  refine (H.out _ (hW.out.next hb1)).mono ?_
  rintro e w2 ⟨rfl, hb⟩
  have hb2 : Below w.heap.size w w2 := bcall hb1 hb
  clear hb
  (go_wp2_with fail; repeat (any_goals (go_quiet (fail); go_wp2_with fail)))
  refine (F.out _ _ (hW.out.next hb2).rd).mono ?_
  rintro e w3 ⟨rfl, hr, hg⟩
  have hW3 := Lib.hid ((hW.out.next hb2).step hg hr hW.out.hp)
  have hg3 := Lib.hid (grown_trans (grown_of_below hb2) hg)
  clear hr hg
  (go_wp2_with fail; repeat (any_goals (go_quiet (fail); go_wp2_with fail)))
  refine ⟨rfl, .tuple #[], by kernel_rfl, rfl, ?_⟩
  exact ⟨hW3.out, hg3.out⟩

end Go.Proofs.YtibopkodoidjoaaGreatDoor

/- Package tree: nodes in memory. -/
namespace Go.Proofs.YtibopkodoidjoaaGreatDoor
open Go Go.RowKit

/-- A member of a list or an object: its key and the key's place, the blocks it lies in, its value, the node. -/
structure Kid where
  key : ByteArray
  pl : Nat
  l : Nat
  h : Nat
  u : Value
  x : Nd
/-- A member's blocks lie within lo .. hi, and the row o is none of them. -/
def Kid.fits (lo hi : Nat) (o : Option Nat) (c : Kid) : Prop := lo ≤ c.l ∧ c.l ≤ c.h ∧ c.h ≤ hi ∧ ∀ k, o = some k → k < c.l ∨ c.h ≤ k
def Kid.mem (c : Kid) : ByteArray × Nat × Nd := (c.key, c.pl, c.x)
def memC (c : Kid) : List Value := [.string c.key, .int .i64 (c.pl : Int), c.u]
/-- A node as a value, its rows in blocks lo .. hi. -/
inductive OwnN (w : World) : Nat → Nat → Value → Nd → Prop
  | null (lo hi p : Nat) : OwnN w lo hi (.iface 90 (.agg #[.int .i64 (p : Int)])) (.null p)
  | flag (lo hi p : Nat) (b : Bool) : OwnN w lo hi (.iface 92 (.agg #[.int .i64 (p : Int), .bool b])) (.flag p b)
  | num (lo hi p : Nat) (t : ByteArray) : OwnN w lo hi (.iface 94 (.agg #[.int .i64 (p : Int), .string t])) (.num p t)
  | text (lo hi p : Nat) (t : ByteArray) : OwnN w lo hi (.iface 95 (.agg #[.int .i64 (p : Int), .string t])) (.text p t)
  | lst (lo hi p : Nat) (v : Value) (cs : List Kid) (ho : w.ownsRow lo 24 1 v cs.length (cs.map Kid.u)) (hb : ∀ k, v.ownBlock = some k → k < hi)
      (hk : ∀ c ∈ cs, c.fits lo hi v.ownBlock) (hp : cs.Pairwise fun a b => a.h ≤ b.l) (hc : ∀ c ∈ cs, OwnN w c.l c.h c.u c.x) :
      OwnN w lo hi (.iface 98 (.agg #[.int .i64 (p : Int), v])) (.lst p (cs.map Kid.x))
  | obj (lo hi p : Nat) (v : Value) (cs : List Kid) (ho : w.ownsRow lo 103 3 v cs.length (cs.flatMap memC)) (hb : ∀ k, v.ownBlock = some k → k < hi)
      (hk : ∀ c ∈ cs, c.fits lo hi v.ownBlock) (hp : cs.Pairwise fun a b => a.h ≤ b.l) (hc : ∀ c ∈ cs, OwnN w c.l c.h c.u c.x) :
      OwnN w lo hi (.iface 101 (.agg #[.int .i64 (p : Int), v])) (.obj p (cs.map Kid.mem))
theorem ownsRow_heap {w w' : World} {base : Nat} {e : TypeId} {size : Nat} {v : Value} {n : Nat} {xs : List Value} (h : w.ownsRow base e size v n xs) (hk : ∀ k, v.ownBlock = some k → w'.heap[k]? = w.heap[k]?) : w'.ownsRow base e size v n xs := by
  obtain ⟨h1, h2 | ⟨g, cap, cur, rfl, hbg, hg, h3⟩⟩ := h
  · exact ⟨h1, Or.inl h2⟩
  · exact ⟨h1, Or.inr ⟨g, cap, cur, rfl, hbg, (hk g rfl).trans hg, h3⟩⟩
theorem ownsRow_base {w : World} {base base' : Nat} {e : TypeId} {size : Nat} {v : Value} {n : Nat} {xs : List Value} (h : w.ownsRow base e size v n xs) (hb : base' ≤ base) : w.ownsRow base' e size v n xs := by
  obtain ⟨h1, h2 | ⟨g, cap, cur, rfl, hbg, h3⟩⟩ := h
  · exact ⟨h1, Or.inl h2⟩
  · exact ⟨h1, Or.inr ⟨g, cap, cur, rfl, Nat.le_trans hb hbg, h3⟩⟩
theorem OwnN.keep {w w' : World} {lo hi : Nat} {u : Value} {x : Nd} (h : OwnN w lo hi u x) : (∀ k, lo ≤ k → k < hi → w'.heap[k]? = w.heap[k]?) → OwnN w' lo hi u x := by
  induction h with
  | null lo hi p => exact fun _ => .null lo hi p
  | flag lo hi p b => exact fun _ => .flag lo hi p b
  | num lo hi p t => exact fun _ => .num lo hi p t
  | text lo hi p t => exact fun _ => .text lo hi p t
  | lst lo hi p v cs ho hb hk hp hc ih =>
    intro H
    exact .lst lo hi p v cs (ownsRow_heap ho fun k e => H k (ho.lt k e).1 (hb k e)) hb hk hp (fun c hm => ih c hm fun k h1 h2 => H k (Nat.le_trans (hk c hm).1 h1) (Nat.lt_of_lt_of_le h2 (hk c hm).2.2.1))
  | obj lo hi p v cs ho hb hk hp hc ih =>
    intro H
    exact .obj lo hi p v cs (ownsRow_heap ho fun k e => H k (ho.lt k e).1 (hb k e)) hb hk hp (fun c hm => ih c hm fun k h1 h2 => H k (Nat.le_trans (hk c hm).1 h1) (Nat.lt_of_lt_of_le h2 (hk c hm).2.2.1))
theorem Kid.fits.wide {lo hi lo' hi' : Nat} {o : Option Nat} {c : Kid} (h : c.fits lo hi o) (h1 : lo' ≤ lo) (h2 : hi ≤ hi') : c.fits lo' hi' o := ⟨Nat.le_trans h1 h.1, h.2.1, Nat.le_trans h.2.2.1 h2, h.2.2.2⟩
theorem OwnN.wide {w : World} {lo hi lo' hi' : Nat} {u : Value} {x : Nd} (h : OwnN w lo hi u x) (h1 : lo' ≤ lo) (h2 : hi ≤ hi') : OwnN w lo' hi' u x := by
  cases h with
  | null _ _ p => exact .null lo' hi' _
  | flag _ _ p b => exact .flag lo' hi' _ _
  | num _ _ p t => exact .num lo' hi' _ _
  | text _ _ p t => exact .text lo' hi' _ _
  | lst _ _ p v cs ho hb hk hp hc => exact .lst lo' hi' _ v cs (ownsRow_base ho h1) (fun k e => Nat.lt_of_lt_of_le (hb k e) h2) (fun c hm => (hk c hm).wide h1 h2) hp hc
  | obj _ _ p v cs ho hb hk hp hc => exact .obj lo' hi' _ v cs (ownsRow_base ho h1) (fun k e => Nat.lt_of_lt_of_le (hb k e) h2) (fun c hm => (hk c hm).wide h1 h2) hp hc
theorem OwnN.grown {w w' : World} {lo hi b : Nat} {u : Value} {x : Nd} (h : OwnN w lo hi u x) (hg : w.grownBy w' (some b)) (hh : hi ≤ w.heap.size) (hb : b < lo) : OwnN w' lo hi u x :=
  h.keep fun k h1 h2 => hg.block k (Nat.lt_of_lt_of_le h2 hh) (fun e => by cases e; omega)
/-- The members that a loop has gathered: the row v of size n0 .., in world w. -/
structure Kids (e : TypeId) (size : Nat) (cell : Kid → List Value) (n0 : Nat) (w : World) (v : Value) (cs : List Kid) : Prop where
  own : w.ownsRow n0 e size v cs.length (cs.flatMap cell)
  fit : ∀ c ∈ cs, c.fits n0 w.heap.size v.ownBlock
  pair : cs.Pairwise fun a b => a.h ≤ b.l
  kid : ∀ c ∈ cs, OwnN w c.l c.h c.u c.x
theorem Kids.nil (e : TypeId) (size : Nat) (cell : Kid → List Value) (n0 : Nat) (w : World) : Kids e size cell n0 w (.slice none 0 0) [] :=
  ⟨World.ownsRow_nil _ _ _ _, fun c h => (by cases h), List.Pairwise.nil, fun c h => (by cases h)⟩
theorem Kids.grown {e : TypeId} {size : Nat} {cell : Kid → List Value} {n0 b : Nat} {w w' : World} {v : Value} {cs : List Kid} (h : Kids e size cell n0 w v cs) (hg : w.grownBy w' (some b)) (hb : b < n0) : Kids e size cell n0 w' v cs := by
  refine ⟨h.own.kept hg ?_, fun c hm => (h.fit c hm).wide (Nat.le_refl _) hg.size, h.pair, fun c hm => (h.kid c hm).grown hg (h.fit c hm).2.2.1 (Nat.lt_of_lt_of_le hb (h.fit c hm).1)⟩
  by_cases hn : v.ownBlock = none
  · exact Or.inl hn
  · refine Or.inr fun e => ?_
    have := (h.own.lt b e).1
    omega
/-- One more: it was read between w and w1 (its blocks those that are new), then put behind the row (to w2). -/
theorem Kids.app {e : TypeId} {size : Nat} {cell : Kid → List Value} {n0 n1 : Nat} {w1 w2 : World} {v v' : Value} {cs : List Kid} {c : Kid} (h : Kids e size cell n0 w1 v cs) (hn : n0 ≤ n1) (hle : ∀ c ∈ cs, c.h ≤ n1) (hlv : ∀ k, v.ownBlock = some k → k < n1)
    (hl : c.l = n1) (hh : c.h = w1.heap.size) (h1 : n1 ≤ w1.heap.size) (hx : OwnN w1 c.l c.h c.u c.x) (ho : w2.ownsRow n0 e size v' (cs.length + 1) (cs.flatMap cell ++ cell c)) (hg : w1.grownBy w2 v.ownBlock)
    (hv : v'.ownBlock = v.ownBlock ∨ ∃ g, v'.ownBlock = some g ∧ w1.heap.size ≤ g) : Kids e size cell n0 w2 v' (cs ++ [c]) := by
  have hcf : c.fits n0 w2.heap.size v'.ownBlock := by
    refine ⟨by omega, by omega, by have := hg.size; omega, fun k hk => ?_⟩
    rcases hv with hv | ⟨g, hv, hge⟩
    · rw [hv] at hk; have := hlv k hk; omega
    · rw [hv] at hk; cases hk; omega
  have hck : ∀ a ∈ cs, a.fits n0 w2.heap.size v'.ownBlock := by
    intro a hm
    have hf := h.fit a hm
    refine ⟨hf.1, hf.2.1, Nat.le_trans hf.2.2.1 hg.size, fun k hk => ?_⟩
    rcases hv with hv | ⟨g, hv, hge⟩
    · rw [hv] at hk; exact hf.2.2.2 k hk
    · rw [hv] at hk; cases hk; have := hf.2.2.1; omega
  refine ⟨?_, ?_, ?_, ?_⟩
  · rw [List.length_append, List.length_singleton, List.flatMap_append]
    rw [show [c].flatMap cell = cell c by rw [List.flatMap_cons, List.flatMap_nil, List.append_nil]]
    exact ho
  · intro a hm
    rcases List.mem_append.1 hm with hm | hm
    · exact hck a hm
    · rw [List.mem_singleton.1 hm]; exact hcf
  · rw [List.pairwise_append]
    refine ⟨h.pair, List.pairwise_singleton _ _, fun a ha b hb => ?_⟩
    rw [List.mem_singleton.1 hb, hl]
    exact hle a ha
  · intro a hm
    rcases List.mem_append.1 hm with hm | hm
    · have hf := h.fit a hm
      exact (h.kid a hm).keep fun k h1 h2 => hg.block k (by have := hf.2.2.1; omega) (fun e => by have := hf.2.2.2 k e.symm; omega)
    · rw [List.mem_singleton.1 hm]
      refine hx.keep fun k h1 h2 => hg.block k (by omega) (fun e => by have := hlv k e.symm; omega)
theorem flat_u : ∀ cs : List Kid, cs.flatMap (fun c => [c.u]) = cs.map Kid.u
  | [] => rfl
  | c :: cs => by rw [List.flatMap_cons, List.map_cons, flat_u cs]; rfl
theorem Kids.lst {n0 p : Nat} {w : World} {v : Value} {cs : List Kid} (h : Kids 24 1 (fun c => [c.u]) n0 w v cs) : OwnN w n0 w.heap.size (.iface 98 (.agg #[.int .i64 (p : Int), v])) (.lst p (cs.map Kid.x)) := by
  refine .lst _ _ p v cs ?_ (fun k e => (h.own.lt k e).2) h.fit h.pair h.kid
  rw [← flat_u cs]
  exact h.own
theorem Kids.obj {n0 p : Nat} {w : World} {v : Value} {cs : List Kid} (h : Kids 103 3 memC n0 w v cs) : OwnN w n0 w.heap.size (.iface 101 (.agg #[.int .i64 (p : Int), v])) (.obj p (cs.map Kid.mem)) :=
  .obj _ _ p v cs h.own (fun k e => (h.own.lt k e).2) h.fit h.pair h.kid

end Go.Proofs.YtibopkodoidjoaaGreatDoor

/- Package tree: the parser's lists. -/
namespace Go.Proofs.YtibopkodoidjoaaGreatDoor
open Go Go.RowKit

theorem infoNd : (Tryz.prog.info? 24).map (fun i => (i.zero, i.size, i.bytes)) = some (some .nilIface, 1, 16) := by kernel_rfl
theorem infoMem : (Tryz.prog.info? 103).map (fun i => (i.zero, i.size, i.bytes)) = some (some (.agg #[.string ⟨#[]⟩, .int .i64 0, .nilIface]), 3, 40) := by kernel_rfl
theorem OwnN.one {w : World} {lo hi : Nat} {u : Value} {x : Nd} (h : OwnN w lo hi u x) : u.oneCell' = true := by cases h <;> rfl
section
variable {ops : Array Oper} {rest : List Oper} {o : Oper} {a : Act} {Q : Exit → Act → World → Prop} {w : World}
/-- append(list, c) of a member. -/
theorem app_kid (hgd : o.guard = none) (sl x : Operand) (t e : TypeId) (size bytes : Nat) (cell : Kid → List Value) (z : Value) (hi : (Tryz.prog.info? e).map (fun i => (i.zero, i.size, i.bytes)) = some (some z, size, bytes)) (hz : z.cells.size = size) (hsz : 0 < size) (hby : bytes ≤ 40) (hcl : ∀ c, (cell c).length = size)
    (ht : Tryz.prog.underlying t = some (.slice e)) (ho : o.op = .call { callee := .builtin .append, args := #[sl, x], argTypes := #[t, t] }) (n0 n1 : Nat) (v : Value) (cs : List Kid) (hs : a.eval sl = v) (hK : Kids e size cell n0 w v cs)
    (g cp : Nat) (c : Kid) (cur : Array Value) (t' : TypeId) (hx : a.eval x = .slice (some ⟨g, 0, none⟩) 1 cp) (hg : w.heap[g]? = some (.cells cur t' (0, 0))) (hcur : cur = (cell c).toArray)
    (hlen : cs.length + 1 ≤ 3518437208883) (hn : n0 ≤ n1) (hn1 : n1 ≤ w.heap.size) (hle : ∀ c ∈ cs, c.h ≤ n1) (hlv : ∀ k, v.ownBlock = some k → k < n1) (hl : c.l = n1) (hh : c.h = w.heap.size) (hN : OwnN w c.l c.h c.u c.x) (h1 : ∀ u ∈ cell c, u.oneCell' = true)
    (h : ∀ v' w', Kids e size cell n0 w' v' (cs ++ [c]) → w.grownBy w' v.ownBlock → (∀ k, v'.ownBlock = some k → k < w'.heap.size) → wpList Tryz.prog ops Q rest (a.put o.dst v') w') : wpList Tryz.prog ops Q (o :: rest) a w := by
  obtain ⟨i0, hi, hi2⟩ := Option.map_eq_some_iff.1 hi
  simp only [Prod.mk.injEq] at hi2
  refine wpList_append_own_at _ hgd sl x t ho n0 e i0 z size bytes ht hi hi2.1 hi2.2.1 hi2.2.2 hz hsz v cs.length (cs.flatMap cell) hs hK.own ⟨g, 0, none⟩ 1 cp (cell c) hx (by rw [hcl]; omega) ?_ h1 (by unfold maxLen; omega) ?_ (Nat.le_trans hn hn1) ?_
  · intro j u hj
    have : (⟨g, 0, none⟩ : Addr).add j = ⟨g, j, none⟩ := by simp only [Addr.add, Nat.zero_add]; split <;> simp_all
    rw [this]
    refine cellB hg j ?_
    rw [hcur, List.getElem?_toArray]
    exact hj
  · have := Nat.mul_le_mul hlen hby
    omega
  · intro v' w' ho2 hg2 _ hv
    refine h v' w' (hK.app hn hle hlv hl hh hn1 hN ho2 hg2 ?_) hg2 (fun k hk => (ho2.lt k hk).2)
    rcases hv with hv | hv
    · exact Or.inl hv
    · exact Or.inr ⟨_, hv, Nat.le_refl _⟩
end
theorem Kids.alloc {e : TypeId} {size : Nat} {cell : Kid → List Value} {n0 : Nat} {w : World} {v : Value} {cs : List Kid} (h : Kids e size cell n0 w v cs) (o : Obj) : Kids e size cell n0 (w.alloc o) v cs :=
  ⟨h.own.alloc o, fun c hm => (h.fit c hm).wide (Nat.le_refl _) (by simp), h.pair, fun c hm => (h.kid c hm).keep fun k _ h2 => Below.heap_alloc _ _ _ (Nat.lt_of_lt_of_le h2 (h.fit c hm).2.2.1)⟩
theorem Kids.below {e : TypeId} {size : Nat} {cell : Kid → List Value} {n0 : Nat} {w w' : World} {v : Value} {cs : List Kid} (h : Kids e size cell n0 w v cs) (hb : Below w.heap.size w w') : Kids e size cell n0 w' v cs :=
  ⟨ownsRow_heap h.own (fun k e => hb.block k (h.own.lt k e).2), fun c hm => (h.fit c hm).wide (Nat.le_refl _) hb.size, h.pair, fun c hm => (h.kid c hm).keep fun k _ h2 => hb.block k (Nat.lt_of_lt_of_le h2 (h.fit c hm).2.2.1)⟩
/-- What value answers. -/
def PostV (A : Nat → Addr) (s : ByteArray) (v : Value) (b : Nat) (w : World) (r : PR Nd) (e : Ending) (w' : World) : Prop :=
  w.grownBy w' (some b) ∧ match r with
    | .ok x q => ∃ u, e = .returned u ∧ OwnN w' w.heap.size w'.heap.size u x ∧ PsB s v q b w'
    | .err k pl => GaveUp A w.heap.size k pl e w'
    | .out => True
/-- What items answers. -/
def PostI (A : Nat → Addr) (s : ByteArray) (v : Value) (b : Nat) (w : World) (r : PR (List Nd)) (e : Ending) (w' : World) : Prop :=
  w.grownBy w' (some b) ∧ match r with
    | .ok xs q => ∃ u cs, e = .returned u ∧ Kids 24 1 (fun c => [c.u]) w.heap.size w' u cs ∧ cs.map Kid.x = xs ∧ PsB s v q b w'
    | .err k pl => GaveUp A w.heap.size k pl e w'
    | .out => True
/-- What members answers. -/
def PostM (A : Nat → Addr) (s : ByteArray) (v : Value) (b : Nat) (w : World) (r : PR (List (ByteArray × Nat × Nd))) (e : Ending) (w' : World) : Prop :=
  w.grownBy w' (some b) ∧ match r with
    | .ok xs q => ∃ u cs, e = .returned u ∧ Kids 103 3 memC w.heap.size w' u cs ∧ cs.map Kid.mem = xs ∧ PsB s v q b w'
    | .err k pl => GaveUp A w.heap.size k pl e w'
    | .out => True
/-- The parser's world: the errors, its block, the tokens. -/
structure PsW (A : Nat → Addr) (B base : Nat) (s : ByteArray) (v : Value) (ts : List Tk) (p b : Nat) (w : World) : Prop where
  env : Env A B SVN w
  ps : PsB s v p b w
  own : OwnT w base v ts
  nb : b ∉ v.ownBlock
  hB : B ≤ b
  hp : p ≤ ts.length
theorem PsW.next {A : Nat → Addr} {B base : Nat} {s : ByteArray} {v : Value} {ts : List Tk} {p b : Nat} {w w' : World} (h : PsW A B base s v ts p b w) (hb : Below w.heap.size w w') : PsW A B base s v ts p b w' :=
  ⟨h.env.next hb, h.ps.next hb, h.own.next hb, h.nb, h.hB, h.hp⟩
theorem PsW.step {A : Nat → Addr} {B base : Nat} {s : ByteArray} {v : Value} {ts : List Tk} {p q b : Nat} {w w' : World} (h : PsW A B base s v ts p b w) (hg : w.grownBy w' (some b)) (hq : PsB s v q b w') (hl : q ≤ ts.length) : PsW A B base s v ts q b w' :=
  ⟨h.env.below (grown_below hg h.env.hB h.hB), hq, h.own.grown hg h.nb, h.nb, h.hB, hl⟩
theorem PsW.lt {A : Nat → Addr} {B base : Nat} {s : ByteArray} {v : Value} {ts : List Tk} {p b : Nat} {w : World} (h : PsW A B base s v ts p b w) : b < w.heap.size := ltB h.ps
theorem PsW.next_calls {A : Nat → Addr} {B base : Nat} {s : ByteArray} {v : Value} {ts : List Tk} {p b : Nat} {w : World} (h : PsW A B base s v ts p b w) {k : Nat} (hk : kindT ts p = k) :
    Calls Tryz.prog 57 #[.pointer (some ⟨b, 0, none⟩)] w fun e w' => e = .returned (.int .i64 (k : Int)) ∧ Below w.heap.size w w' := hk ▸ tnext_calls s p b w h.hp h.ps h.own
theorem PsW.place_calls {A : Nat → Addr} {B base : Nat} {s : ByteArray} {v : Value} {ts : List Tk} {p b : Nat} {w : World} (h : PsW A B base s v ts p b w) :
    Calls Tryz.prog 33 #[.pointer (some ⟨b, 0, none⟩)] w fun e w' => e = .returned (.int .i64 (placeT s ts p : Int)) ∧ Below w.heap.size w w' := tplace_calls s p b w h.hp h.ps h.own
theorem PsW.take_bad {A : Nat → Addr} {B base : Nat} {s : ByteArray} {v : Value} {ts : List Tk} {p b : Nat} {w : World} (h : PsW A B base s v ts p b w) {k : Nat} (hk : kindT ts p ≠ k) :
    Calls Tryz.prog 58 #[.pointer (some ⟨b, 0, none⟩), .int .i64 (k : Int)] w fun e w' => GaveUp A w.heap.size 2 (placeT s ts p) e w' ∧ Below w.heap.size w w' := Go.Proofs.YtibopkodoidjoaaGreatDoor.take_bad s k p b w h.env h.hp h.ps h.own hk
theorem PsW.take_ok {A : Nat → Addr} {B base : Nat} {s : ByteArray} {v : Value} {ts : List Tk} {p b : Nat} {w : World} (h : PsW A B base s v ts p b w) {k : Nat} (hk : kindT ts p = k) (h0 : k ≠ 0) :
    Calls Tryz.prog 58 #[.pointer (some ⟨b, 0, none⟩), .int .i64 (k : Int)] w fun e w' => (∃ T, ts[p]? = some T ∧ e = .returned (tkV T)) ∧ PsW A B base s v ts (p + 1) b w' ∧ w.grownBy w' (some b) := by
  have hlt := kindT_lt (ts := ts) (p := p) (by omega)
  have hT : ts[p]? = some ts[p] := List.getElem?_eq_getElem _
  refine (Go.Proofs.YtibopkodoidjoaaGreatDoor.take_ok s k p b w hT h.ps h.own h.nb ?_).mono ?_
  · unfold kindT at hk; rw [hT] at hk; exact hk
  · rintro e w' ⟨rfl, h1, h2⟩
    exact ⟨⟨_, hT, rfl⟩, h.step h2 h1 hlt, h2⟩
/-- What is asked of value at a depth and a fuel. -/
def VC (A : Nat → Addr) (B base : Nat) (s : ByteArray) (v : Value) (ts : List Tk) (f : Nat) : Prop := ∀ deep p b w, pV s ts f deep p ≠ .out → deep ≤ 64 → PsW A B base s v ts p b w →
  Calls Tryz.prog 31 #[.pointer (some ⟨b, 0, none⟩), .int .i64 (deep : Int)] w (PostV A s v b w (pV s ts f deep p))

end Go.Proofs.YtibopkodoidjoaaGreatDoor
