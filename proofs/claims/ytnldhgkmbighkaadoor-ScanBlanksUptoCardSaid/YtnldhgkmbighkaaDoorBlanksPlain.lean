/- Plain laws of ScanBlanks: blanks laid between tokens. No program in sight. -/
import Derived.Test.YtnldhgkmbighkaaDoorLay
namespace Go.Proofs.YtnldhgkmbighkaaDoor
open Go Go.RowKit

/-- How many blanks stand ahead of token i. -/
def gapN (zs : List Int) (i : Nat) : Nat := match zs[i]? with | some z => (z.emod 18446744073709551616).toNat % 6 | none => 0
def blkC (j : Nat) : UInt8 := match j % 4 with | 0 => 32 | 1 => 10 | 2 => 9 | _ => 13
def gapL (i n : Nat) : List UInt8 := (List.range n).map fun k => blkC (i + k)
theorem gapL_zero (i : Nat) : gapL i 0 = [] := rfl
theorem gapL_succ (i n : Nat) : gapL i (n + 1) = gapL i n ++ [blkC (i + n)] := by unfold gapL; rw [List.range_succ, List.map_append]; rfl
theorem gapL_len (i n : Nat) : (gapL i n).length = n := by unfold gapL; simp
theorem gapN_lt (zs : List Int) (i : Nat) : gapN zs i < 6 := by
  unfold gapN
  split
  · exact Nat.mod_lt _ (by decide)
  · decide
theorem blkC_blank (j : Nat) : blankN (blkC j).toNat = true := by
  unfold blkC
  split <;> decide
theorem gapL_blank (i n : Nat) : blanksL (gapL i n) := by
  intro c hc
  unfold gapL at hc
  obtain ⟨k, _, rfl⟩ := List.mem_map.1 hc
  exact blkC_blank _
/-- Tokens from place i on, each with its blanks. -/
def itemsF (zs : List Int) : Nat → List Tk → List (List UInt8 × Tk)
  | _, [] => []
  | i, T :: r => (gapL i (gapN zs i), T) :: itemsF zs (i + 1) r
theorem itemsF_mem {zs : List Int} : ∀ (ts : List Tk) (i : Nat), ∀ x ∈ itemsF zs i ts, blanksL x.1 ∧ x.2 ∈ ts
  | [], _, x, h => by cases h
  | T :: r, i, x, h => by
    rcases List.mem_cons.1 h with rfl | h
    · exact ⟨gapL_blank _ _, List.mem_cons_self ..⟩
    · have := itemsF_mem r (i + 1) x h
      exact ⟨this.1, List.mem_cons_of_mem _ this.2⟩
theorem itemsF_snoc (zs : List Int) (T : Tk) : ∀ (ts : List Tk) (i : Nat), itemsF zs i (ts ++ [T]) = itemsF zs i ts ++ [(gapL (i + ts.length) (gapN zs (i + ts.length)), T)]
  | [], i => rfl
  | t :: ts, i => by
    show _ :: itemsF zs (i + 1) (ts ++ [T]) = _ :: (itemsF zs (i + 1) ts ++ _)
    rw [itemsF_snoc zs T ts (i + 1), List.length_cons, show i + 1 + ts.length = i + (ts.length + 1) by omega]
theorem layL_snoc (s : ByteArray) (b : List UInt8) (T : Tk) : ∀ it : List (List UInt8 × Tk), layL s [] (it ++ [(b, T)]) = layL s [] it ++ (b ++ segL s T)
  | [] => by simp [layL]
  | (b', T') :: r => by
    rw [List.cons_append, layL, layL, layL_snoc s b T r]
    simp
theorem layL_end (s : ByteArray) (Z : List UInt8) : ∀ it : List (List UInt8 × Tk), layL s Z it = layL s [] it ++ Z
  | [] => rfl
  | (b', T') :: r => by
    rw [layL, layL, layL_end s Z r]
    simp
theorem wantL_snoc (s : ByteArray) (b : List UInt8) (T : Tk) : ∀ (it : List (List UInt8 × Tk)) (p : Nat), (∀ x ∈ it, x.2.to ≤ s.size) → wantL p (it ++ [(b, T)]) = wantL p it ++ [⟨T.kind, p + (layL s [] it).length + b.length, p + (layL s [] it).length + b.length + (T.to - T.fr), T.text⟩]
  | [], p, _ => by simp [wantL, layL]
  | (b', T') :: r, p, h => by
    rw [List.cons_append, wantL, wantL, wantL_snoc s b T r _ (fun x hx => h x (List.mem_cons_of_mem _ hx)), List.cons_append]
    have hl := segL_len (s := s) (T := T') (h _ (List.mem_cons_self ..))
    rw [layL, List.length_append, List.length_append, hl]
    congr 3
    rw [Tk.mk.injEq]
    refine ⟨rfl, ?_, ?_, rfl⟩ <;> omega
theorem wantL_len : ∀ (it : List (List UInt8 × Tk)) (p : Nat), (wantL p it).length = it.length
  | [], _ => rfl
  | (b, T) :: r, p => by rw [wantL, List.length_cons, List.length_cons, wantL_len r]
theorem itemsF_len (zs : List Int) : ∀ (ts : List Tk) (i : Nat), (itemsF zs i ts).length = ts.length
  | [], _ => rfl
  | T :: r, i => by rw [itemsF, List.length_cons, List.length_cons, itemsF_len zs r]
theorem layL_le (s : ByteArray) (zs : List Int) : ∀ (ts : List Tk) (i p : Nat), (∀ T ∈ ts, T.fr < T.to ∧ T.to ≤ s.size) → (layL s [] (itemsF zs i ts)).length ≤ ts.length * (6 + s.size)
  | [], _, _, _ => by simp [itemsF, layL]
  | T :: r, i, p, h => by
    have ih := layL_le s zs r (i + 1) p (fun x hx => h x (List.mem_cons_of_mem _ hx))
    have h1 := h T (List.mem_cons_self ..)
    have h2 := gapN_lt zs i
    rw [itemsF, layL, List.length_append, List.length_append, segL_len h1.2, gapL_len, List.length_cons, Nat.add_mul]
    omega
/-- Do two tokens that stood apart come to stand side by side? -/
def gluedAt (zs : List Int) (ts : List Tk) (i : Nat) : Prop := gapN zs i = 0 ∧ ∃ T T', ts[i - 1]? = some T ∧ ts[i]? = some T' ∧ T.to < T'.fr
theorem glue_ok (zs : List Int) (all : List Tk) : ∀ (ts : List Tk) (i : Nat), (∀ j T, ts[j]? = some T → all[i + j]? = some T) → (∀ j, 1 ≤ j → j < all.length → ¬ gluedAt zs all j) → (∀ j T T', all[j]? = some T → all[j + 1]? = some T' → T.to ≤ T'.fr) → glueOk (itemsF zs i ts)
  | [], _, _, _, _ => trivial
  | [T], _, _, _, _ => trivial
  | T :: T' :: r, i, ha, hn, hr => by
    have h0 : all[i]? = some T := ha 0 T rfl
    have h1 : all[i + 1]? = some T' := ha 1 T' rfl
    refine ⟨fun hb => ?_, glue_ok zs all (T' :: r) (i + 1) (fun j X hX => by rw [show i + 1 + j = i + (j + 1) by omega]; exact ha (j + 1) X (by simpa using hX)) hn hr⟩
    have hg : gapN zs (i + 1) = 0 := by
      have := congrArg List.length hb
      rw [gapL_len] at this
      exact this
    have hle := hr i T T' h0 h1
    have hlt : i + 1 < all.length := by
      rcases Nat.lt_or_ge (i + 1) all.length with h | h
      · exact h
      · rw [List.getElem?_eq_none h] at h1; cases h1
    have := hn (i + 1) (by omega) hlt
    unfold gluedAt at this
    rcases Nat.lt_or_ge T.to T'.fr with h | h
    · exact absurd ⟨hg, T, T', by simpa using h0, h1, h⟩ this
    · omega
/-- Tokens of a scan rise. -/
theorem chain_rise {s : ByteArray} : ∀ (ts : List Tk) (p : Nat), Chain s p ts → ∀ j T T', ts[j]? = some T → ts[j + 1]? = some T' → T.to ≤ T'.fr
  | [], _, _, j, T, T', h, _ => by simp at h
  | [X], _, _, j, T, T', h, h2 => by simp at h2
  | X :: Y :: r, p, ⟨_, _, _, _, hc⟩, 0, T, T', h, h2 => by
    simp at h h2
    subst h h2
    exact hc.1
  | X :: Y :: r, p, ⟨_, _, _, _, hc⟩, j + 1, T, T', h, h2 => chain_rise (Y :: r) X.to hc j T T' (by simpa using h) (by simpa using h2)

end Go.Proofs.YtnldhgkmbighkaaDoor
