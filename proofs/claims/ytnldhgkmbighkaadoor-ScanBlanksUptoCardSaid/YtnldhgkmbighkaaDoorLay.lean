/- Plain laws: each token by itself; tokens laid out anew with blanks between. No program in sight. -/
import Derived.Test.YtnldhgkmbighkaaDoorSingle
namespace Go.Proofs.YtnldhgkmbighkaaDoor
open Go Go.RowKit

theorem bAt_ext (s : ByteArray) {a b j : Nat} (hb : b ≤ s.size) (hj : j < b - a) : bAt (s.extract a b) j = bAt s (a + j) := by
  have e : (s.extract a b).size = b - a := by rw [ByteArray.size_extract]; omega
  unfold bAt
  rw [dif_pos (by omega), dif_pos (by omega), ByteArray.getElem_extract]
theorem stop0 : stopB 0 := ⟨by decide, by decide, by decide, by decide⟩
theorem stop_blank {c : Nat} (h : blankN c = true) : stopB c := by
  have hc : c = 32 ∨ c = 9 ∨ c = 10 ∨ c = 13 := by
    simp only [blankN, Bool.or_eq_true, beq_iff_eq] at h; omega
  rcases hc with e | e | e | e <;> (subst e; exact ⟨by decide, by decide, by decide, by decide⟩)
/-- The bytes of a token. -/
def segL (s : ByteArray) (T : Tk) : List UInt8 := (s.extract T.fr T.to).data.toList
theorem segL_len {s : ByteArray} {T : Tk} (h : T.to ≤ s.size) : (segL s T).length = T.to - T.fr := by
  unfold segL
  rw [Array.length_toList]
  show (s.extract T.fr T.to).size = _
  rw [ByteArray.size_extract]; omega
theorem segL_nth {s : ByteArray} {T : Tk} (h : T.to ≤ s.size) {j : Nat} (hj : j < T.to - T.fr) : nthN (segL s T) j = bAt s (T.fr + j) := by
  have : nthN (segL s T) j = bAt (s.extract T.fr T.to) j := (bAt_nth _ _).symm
  rw [this, bAt_ext s h hj]
theorem bs_get (s : ByteArray) (i k j : Nat) (h : j < (bs s i k).length) : (bs s i k)[j] = bAt s (i + j) := by
  revert h; unfold bs; intro h; simp
theorem segL_vl {s : ByteArray} {T : Tk} (h1 : T.fr ≤ T.to) (h : T.to ≤ s.size) (hb1 : brkAt s T.fr = s.size) (hb2 : brkAt s T.to = s.size) : VL ((segL s T).map UInt8.toNat) := by
  have e : (segL s T).map UInt8.toNat = bs s T.fr T.to := by
    apply List.ext_getElem
    · rw [List.length_map, segL_len h, bs_len]
    · intro j h2 h3
      rw [bs_len] at h3
      have := segL_nth h h3
      unfold nthN at this
      rw [List.getElem?_eq_getElem (by rw [segL_len h]; exact h3)] at this
      simp only [Option.map_some, Option.getD_some] at this
      rw [List.getElem_map, this, bs_get]
  rw [e]
  exact seg_vl s T.to h hb2 _ T.fr (Nat.le_refl _) h1 hb1
/-- Each token, by itself, is that one token. -/
theorem tok_alone {s : ByteArray} (h0 : (someS s).2.1 = 0) {T : Tk} (hT : T ∈ (someS s).1) : someS (s.extract T.fr T.to) = ([⟨T.kind, 0, T.to - T.fr, T.text⟩], 0, 0) := by
  obtain ⟨hu, hch, _⟩ := some_chain h0
  obtain ⟨_, h2, h3, h4, h5, h6⟩ := chain_bd _ 0 ((utfE_brk _).1 hu) (Nat.zero_le _) hch T hT
  generalize ht : s.extract T.fr T.to = t
  have hz : t.size = T.to - T.fr := by rw [← ht, ByteArray.size_extract]; omega
  have hl : t = ⟨(segL s T).toArray⟩ := by rw [← ht]; rfl
  have hut : utfE t = 0 := by rw [hl, utfE_mk]; exact segL_vl (by omega) h3 h4 h5
  have ho : oneAt t 0 = (0, 0, ⟨T.kind, 0, 0 + (T.to - T.fr), T.text⟩) := by
    refine one_loc (s := s) (i := T.fr) (by omega) h6 (by omega) (fun j hj => ?_) (fun _ => Or.inr ?_)
    · rw [Nat.zero_add, ← ht, bAt_ext s h3 hj]
    · rw [bAt_ge t _ (by omega)]; exact stop0
  rw [Nat.zero_add] at ho
  rw [someS_eq, if_pos hut]
  refine (scan_chain _ 0 (Nat.zero_le _) ((utfE_brk _).1 hut)).2 ⟨Nat.le_refl _, by show 0 < t.size; omega, fun j h1 h2 => ?_, ho, by show T.to - T.fr ≤ t.size; omega, fun j h1 h2 => ?_⟩
  · simp only at h2; omega
  · simp only at h1; omega

/-! ### Laid out anew -/
def layL (s : ByteArray) (Z : List UInt8) : List (List UInt8 × Tk) → List UInt8
  | [] => Z
  | (b, T) :: r => b ++ (segL s T ++ layL s Z r)
def wantL : Nat → List (List UInt8 × Tk) → List Tk
  | _, [] => []
  | p, (b, T) :: r => ⟨T.kind, p + b.length, p + b.length + (T.to - T.fr), T.text⟩ :: wantL (p + b.length + (T.to - T.fr)) r
def blanksL (b : List UInt8) : Prop := ∀ c ∈ b, blankN c.toNat = true
/-- What stands apart stays apart, and what stands side by side did so. -/
def glueOk : List (List UInt8 × Tk) → Prop
  | [] => True
  | (_, _) :: [] => True
  | (_, T) :: (b', T') :: r => (b' = [] → T.to = T'.fr) ∧ glueOk ((b', T') :: r)
theorem nth_blank {b : List UInt8} (h : blanksL b) {j : Nat} (hj : j < b.length) : blankN (nthN b j) = true := by
  unfold nthN
  rw [List.getElem?_eq_getElem hj]
  exact h _ (List.getElem_mem hj)
theorem lay_chain {s : ByteArray} {Z : List UInt8} (hZ : blanksL Z) : ∀ (it : List (List UInt8 × Tk)) (A : List UInt8),
    (∀ x ∈ it, blanksL x.1 ∧ x.2.fr < x.2.to ∧ x.2.to ≤ s.size ∧ oneAt s x.2.fr = (0, 0, x.2)) → glueOk it → Chain ⟨(A ++ layL s Z it).toArray⟩ A.length (wantL A.length it)
  | [], A, _, _ => by
    refine ⟨by rw [size_mk, List.length_append]; omega, fun j h1 h2 => ?_⟩
    rw [size_mk, List.length_append] at h2
    have := nth_at (A := A) (l := Z) (j - A.length)
    rw [show A.length + (j - A.length) = j by omega] at this
    show blankN (bAt ⟨(A ++ Z).toArray⟩ j) = true
    rw [this]
    unfold layL at h2
    exact nth_blank hZ (by omega)
  | (b, T) :: r, A, hit, hg => by
    obtain ⟨hb, hft, hto, hone⟩ := hit (b, T) (List.mem_cons_self ..)
    simp only at hb hft hto hone
    have hsl := segL_len (s := s) hto
    generalize ht : (⟨(A ++ layL s Z ((b, T) :: r)).toArray⟩ : ByteArray) = t
    have hsz : t.size = A.length + (b.length + ((T.to - T.fr) + (layL s Z r).length)) := by
      rw [← ht, size_mk, List.length_append, layL, List.length_append, List.length_append, hsl]
    have hag : Agr s t T.fr (A.length + b.length) (T.to - T.fr) := by
      intro j hj
      have e : A ++ layL s Z ((b, T) :: r) = A ++ b ++ (segL s T ++ layL s Z r) := by rw [layL, List.append_assoc]
      rw [← ht, e, ← List.length_append, nth_at, nth_left (by omega), segL_nth hto hj]
    have hafter : ∀ k, bAt t (A.length + b.length + (T.to - T.fr) + k) = nthN (layL s Z r) k := by
      intro k
      have e : A ++ layL s Z ((b, T) :: r) = A ++ b ++ segL s T ++ layL s Z r := by rw [layL, List.append_assoc, List.append_assoc]
      have := nth_at (A := A ++ b ++ segL s T) (l := layL s Z r) k
      rw [List.length_append, List.length_append, hsl] at this
      rw [← ht, e]; exact this
    have hnx : bAt t (A.length + b.length + (T.to - T.fr)) = bAt s (T.fr + (T.to - T.fr)) ∨ stopB (bAt t (A.length + b.length + (T.to - T.fr))) := by
      have h0 := hafter 0
      rw [Nat.add_zero] at h0
      rw [h0]
      cases r with
      | nil =>
        right
        show stopB (nthN Z 0)
        cases Z with
        | nil => exact stop0
        | cons c Z => exact stop_blank (hZ c (List.mem_cons_self ..))
      | cons x r =>
        obtain ⟨b', T'⟩ := x
        cases b' with
        | nil =>
          left
          have hadj := hg.1 rfl
          obtain ⟨_, hft', hto', _⟩ := hit ([], T') (List.mem_cons_of_mem _ (List.mem_cons_self ..))
          simp only at hft' hto'
          rw [layL, List.nil_append, nth_left (by rw [segL_len hto']; omega), segL_nth hto' (by omega)]
          congr 1; omega
        | cons c b' =>
          right
          have hb' := (hit (c :: b', T') (List.mem_cons_of_mem _ (List.mem_cons_self ..))).1
          exact stop_blank (hb' c (List.mem_cons_self ..))
    have ho := one_loc (by omega) hone (by omega) hag (fun _ => hnx)
    have ih := lay_chain hZ r (A ++ b ++ segL s T) (fun x hx => hit x (List.mem_cons_of_mem _ hx)) (by cases r with
      | nil => trivial
      | cons x r => exact hg.2)
    have e : A ++ b ++ segL s T ++ layL s Z r = A ++ layL s Z ((b, T) :: r) := by rw [layL, List.append_assoc, List.append_assoc]
    rw [e, ht, List.length_append, List.length_append, hsl] at ih
    refine ⟨by show A.length ≤ A.length + b.length; omega, by show A.length + b.length < t.size; omega, fun j h1 h2 => ?_, ho, ih⟩
    simp only at h2
    have e2 : A ++ layL s Z ((b, T) :: r) = A ++ (b ++ (segL s T ++ layL s Z r)) := by rw [layL]
    have := nth_at (A := A) (l := b ++ (segL s T ++ layL s Z r)) (j - A.length)
    rw [show A.length + (j - A.length) = j by omega, ← e2, ht, nth_left (by omega)] at this
    rw [this]
    exact nth_blank hb (by omega)
theorem lay_vl {s : ByteArray} {Z : List UInt8} (hZ : blanksL Z) : ∀ (it : List (List UInt8 × Tk)), (∀ x ∈ it, blanksL x.1 ∧ x.2.fr < x.2.to ∧ x.2.to ≤ s.size ∧ brkAt s x.2.fr = s.size ∧ brkAt s x.2.to = s.size) → VL ((layL s Z it).map UInt8.toNat)
  | [], _ => VL.ascii fun c hc => by
    obtain ⟨d, hd, rfl⟩ := List.mem_map.1 hc
    exact (blank_ascii (hZ d hd)).2
  | (b, T) :: r, hit => by
    obtain ⟨hb, h1, h2, h3, h4⟩ := hit (b, T) (List.mem_cons_self ..)
    rw [layL, List.map_append, List.map_append]
    refine VL.append (VL.ascii fun c hc => ?_) (VL.append (segL_vl (Nat.le_of_lt h1) h2 h3 h4) (lay_vl hZ r fun x hx => hit x (List.mem_cons_of_mem _ hx)))
    obtain ⟨d, hd, rfl⟩ := List.mem_map.1 hc
    exact (blank_ascii (hb d hd)).2
/-- Tokens laid out anew, with blanks, are the same tokens at their new places. -/
theorem lay_scan {s : ByteArray} (h0 : (someS s).2.1 = 0) {Z : List UInt8} (hZ : blanksL Z) (it : List (List UInt8 × Tk)) (hit : ∀ x ∈ it, blanksL x.1 ∧ x.2 ∈ (someS s).1) (hg : glueOk it) :
    someS ⟨(layL s Z it).toArray⟩ = (wantL 0 it, 0, 0) := by
  obtain ⟨hu, hch, _⟩ := some_chain h0
  have hbd := chain_bd _ 0 ((utfE_brk _).1 hu) (Nat.zero_le _) hch
  have hut : utfE ⟨(layL s Z it).toArray⟩ = 0 := by
    rw [utfE_mk]
    refine lay_vl hZ it fun x hx => ?_
    obtain ⟨h1, h2⟩ := hit x hx
    obtain ⟨_, g2, g3, g4, g5, _⟩ := hbd _ h2
    exact ⟨h1, g2, g3, g4, g5⟩
  rw [someS_eq, if_pos hut]
  refine (scan_chain _ 0 (Nat.zero_le _) ((utfE_brk _).1 hut)).2 ?_
  have := lay_chain (s := s) hZ it [] (fun x hx => by
    obtain ⟨h1, h2⟩ := hit x hx
    obtain ⟨_, g2, g3, _, _, g6⟩ := hbd _ h2
    exact ⟨h1, g2, g3, g6⟩) hg
  exact this

end Go.Proofs.YtnldhgkmbighkaaDoor
