/- Lemmas of the proof, put together: TreeBackPlain, TreePlace, As, Lives18, TreeBack, StrsU. -/
import Derived.Test.YtibopkodoidjoaaGreatDoorM9
import Derived.Test.YtibopkodoidjoaaGreatDoorM2
import Derived.Stop.Asserts
import Derived.RowKitTokens
import Derived.Test.YtibopkodoidjoaaGreatDoorM8
import Derived.Test.YtibopkodoidjoaaGreatDoorCards

/- Package tree, plain laws: a text's form is its own form; the same nodes at the same paths; its tokens are its bytes. No program in sight. -/
namespace Go.Proofs.YtibopkodoidjoaaGreatDoor
open Go Go.RowKit

theorem num_okC {s : ByteArray} {T : Tk} (h0 : oneAt s T.fr = (0, 0, T)) (h1 : T.fr < T.to) (h2 : T.to ≤ s.size) (hb : brkAt s T.fr = s.size) (hk : T.kind = 4) : okC ⟨4, noS, (s.extract T.fr T.to).data.toList⟩ := by
  have hsl := segL_len (s := s) h2
  have hnx := one_fr (by omega) hb h0
  refine ⟨fun B Z hZ => ?_, ?_, ?_⟩
  · have hag : Agr s ⟨(B ++ (segL s T ++ Z)).toArray⟩ T.fr B.length (T.to - T.fr) := by
      intro j hj
      rw [nth_at, nth_left (by omega), segL_nth h2 hj]
    have := one_loc (t := ⟨(B ++ (segL s T ++ Z)).toArray⟩) (k := B.length) (n := T.to - T.fr) (by omega) h0 (by omega) hag (fun _ => Or.inr (by
      have e : B ++ (segL s T ++ Z) = (B ++ segL s T) ++ Z := by rw [List.append_assoc]
      have e2 : B.length + (T.to - T.fr) = (B ++ segL s T).length + 0 := by rw [List.length_append, hsl, Nat.add_zero]
      rw [e, e2, nth_at]
      exact hZ rfl))
    rw [hk, one_text_no h0 (by omega)] at this
    show oneAt ⟨(B ++ (segL s T ++ Z)).toArray⟩ B.length = (0, 0, ⟨4, B.length, B.length + (segL s T).length, noS⟩)
    rw [hsl]
    exact this
  · show 0 < (segL s T).length
    omega
  · exact segL_vl (Nat.le_of_lt h1) h2 hb hnx.2.2.2.1
theorem pun_ok {k : Nat} {c : UInt8} (h : signK c.toNat = k) (h0 : k ≠ 0) (h4 : c.toNat < 128) : okC (pun k c) := by
  refine ⟨fun B Z _ => ?_, Nat.one_pos, VL.one h4⟩
  have e0 : bAt ⟨(B ++ ([c] ++ Z)).toArray⟩ B.length = c.toNat := by
    have := nth_at (A := B) (l := [c] ++ Z) 0
    rw [Nat.add_zero] at this
    rw [this]; rfl
  show oneAt ⟨(B ++ ([c] ++ Z)).toArray⟩ B.length = (0, 0, ⟨k, B.length, B.length + 1, noS⟩)
  unfold oneAt
  simp only
  rw [e0, h, if_pos h0]
theorem lit_ok {k : Nat} {l : List UInt8} (hk : (k = 1 ∧ l = litNull) ∨ (k = 2 ∧ l = litFlag true) ∨ (k = 3 ∧ l = litFlag false)) : okC ⟨k, noS, l⟩ := by
  have key : ∀ (B Z : List UInt8) (j : Nat), j < l.length → bAt ⟨(B ++ (l ++ Z)).toArray⟩ (B.length + j) = nthN l j := fun B Z j hj => by rw [nth_at, nth_left hj]
  rcases hk with ⟨rfl, rfl⟩ | ⟨rfl, rfl⟩ | ⟨rfl, rfl⟩
  all_goals
    refine ⟨fun B Z _ => ?_, by decide, VL.ascii (by decide)⟩
    have k0 := key B Z 0 (by decide)
    have k1 := key B Z 1 (by decide)
    have k2 := key B Z 2 (by decide)
    have k3 := key B Z 3 (by decide)
    first
    | (have k4 := key B Z 4 (by decide)
       rw [Nat.add_zero] at k0
       unfold oneAt
       simp only
       rw [k0, k1, k2, k3, k4]
       rfl)
    | (rw [Nat.add_zero] at k0
       unfold oneAt
       simp only
       rw [k0, k1, k2, k3]
       rfl)
theorem text_ok {t : ByteArray} (hu : utfE t = 0) : okC ⟨5, t, qN t⟩ := by
  have hq : qN t = quoteL t.data.toList := by unfold qN; rw [if_pos hu]
  refine ⟨fun B Z _ => ?_, ?_, ?_⟩
  · simp only
    rw [hq]
    have e1 : B ++ (quoteL t.data.toList ++ Z) = (B ++ [34]) ++ (t.data.toList.flatMap escB ++ (34 :: Z)) := by unfold quoteL; simp
    have e0 : bAt ⟨(B ++ (quoteL t.data.toList ++ Z)).toArray⟩ B.length = 34 := by
      have := nth_at (A := B) (l := quoteL t.data.toList ++ Z) 0
      rw [Nat.add_zero] at this
      rw [this]; rfl
    have hz := q_quote Z t.data.toList (B ++ [34]) []
    rw [← e1, List.length_append, List.length_singleton, List.nil_append] at hz
    have hlen : (quoteL t.data.toList).length = 1 + (t.data.toList.flatMap escB).length + 1 := by unfold quoteL; simp; omega
    unfold oneAt
    simp only
    rw [e0, if_neg (by decide), if_neg (by decide), if_neg (by decide), if_neg (by decide), if_neg (by decide), if_pos rfl, hz, if_pos rfl, hlen]
    have e3 : B.length + 1 + (t.data.toList.flatMap escB).length + 1 = B.length + (1 + (t.data.toList.flatMap escB).length + 1) := by omega
    rw [e3]
  · simp only
    rw [hq]; unfold quoteL; simp
  · simp only
    rw [hq]
    have := quote_utf hu
    unfold quoteS at this
    rw [utfE_mk] at this
    exact this
/-- A text's token holds UTF-8. -/
theorem one_text_utf {s : ByteArray} {i : Nat} {T : Tk} (hi : i < s.size) (hb : brkAt s i = s.size) (h : oneAt s i = (0, 0, T)) (hk : T.kind = 5) : utfE T.text = 0 := by
  unfold oneAt at h
  simp only at h
  split at h
  · rename_i h1
    cases h
    simp only at hk
    unfold signK at hk
    repeat' split at hk
    all_goals omega
  split at h
  · split at h
    · cases h; cases hk
    · cases h
  split at h
  · split at h
    · cases h; cases hk
    · cases h
  split at h
  · split at h
    · cases h; cases hk
    · cases h
  split at h
  · split at h
    · cases h; cases hk
    · cases h
  split at h
  · rename_i h34
    split at h
    · rename_i h0
      cases h
      have hb1 := brk_ascii hb hi (by rw [h34]; decide)
      have hq : qAt s (i + 1) [] = (0, (qAt s (i + 1) []).2.1, (qAt s (i + 1) []).2.2) := by rw [← h0]
      have := q_valid s _ (i + 1) [] _ _ (Nat.le_refl _) hb1 VL.nil hq
      exact (utfE_mk _).2 this
    · rename_i h5
      simp only [Prod.mk.injEq] at h
      exact absurd h.1 h5
  · cases h
/-- The tokens of a text that scans are good wherever they stand. -/
theorem some_okC {s : ByteArray} (h : (someS s).2.1 = 0) (p : Nat) (hp : p < (someS s).1.length) : okC (canI s (someS s).1 p) := by
  have hT : (someS s).1[p]? = some (someS s).1[p] := List.getElem?_eq_getElem _
  obtain ⟨h1, h2, h3, h4⟩ := some_tok h _ (List.getElem_mem hp)
  generalize (someS s).1[p] = T at *
  have hk : kindT (someS s).1 p = T.kind := by unfold kindT; rw [hT]
  have ht : textT (someS s).1 p = T.text := by unfold textT; rw [hT]
  have hw : wordT s (someS s).1 p = s.extract T.fr T.to := by unfold wordT; rw [hT]
  have hf := one_fr (by omega) h3 h4
  have hno := one_text_no h4
  unfold canI bytesI
  rw [hk, ht, hw]
  have hk1 := hf.2.2.2.2.2.1
  have hk2 := hf.2.2.2.2.2.2
  rcases (show T.kind = 1 ∨ T.kind = 2 ∨ T.kind = 3 ∨ T.kind = 4 ∨ T.kind = 5 ∨ T.kind = 6 ∨ T.kind = 7 ∨ T.kind = 8 ∨ T.kind = 9 ∨ T.kind = 10 ∨ T.kind = 11 by omega) with e | e | e | e | e | e | e | e | e | e | e
  · rw [hno (by omega), e]; exact lit_ok (Or.inl ⟨rfl, rfl⟩)
  · rw [hno (by omega), e]; exact lit_ok (Or.inr (Or.inl ⟨rfl, rfl⟩))
  · rw [hno (by omega), e]; exact lit_ok (Or.inr (Or.inr ⟨rfl, rfl⟩))
  · rw [hno (by omega), e]; exact num_okC h4 h1 h2 h3 e
  · rw [e]; exact text_ok (one_text_utf (by omega) h3 h4 e)
  · rw [hno (by omega), e]; exact pun_ok (by decide) (by decide) (by decide)
  · rw [hno (by omega), e]; exact pun_ok (by decide) (by decide) (by decide)
  · rw [hno (by omega), e]; exact pun_ok (by decide) (by decide) (by decide)
  · rw [hno (by omega), e]; exact pun_ok (by decide) (by decide) (by decide)
  · rw [hno (by omega), e]; exact pun_ok (by decide) (by decide) (by decide)
  · rw [hno (by omega), e]; exact pun_ok (by decide) (by decide) (by decide)
/-- The form of a text that parses, scanned. -/
theorem form_scan {s : ByteArray} {x : Nd} {q : Nat} (h : parseS s = .ok x q) : someS (formS s) = (wantC 0 (toksN x), 0, 0) ∧ formS s = ⟨(flatC (toksN x)).toArray⟩ := by
  obtain ⟨h0, h1, h2⟩ := parse_toks h
  have hf : formS s = ⟨(flatC (toksN x)).toArray⟩ := by unfold formS; rw [h, flat_fmt]
  refine ⟨?_, hf⟩
  rw [hf]
  refine scanC ?_ ?_
  · have := adj_toks x [] trivial trivial
    rw [List.append_nil] at this
    exact this
  · intro c hc
    rw [h2] at hc
    unfold segI at hc
    obtain ⟨p, hp, rfl⟩ := List.mem_map.1 hc
    have := List.mem_range'_1.1 hp
    exact some_okC h0 p (by omega)
theorem form_alike {s : ByteArray} {x : Nd} {q : Nat} (h : parseS s = .ok x q) : Alike s (someS s).1 (formS s) (wantC 0 (toksN x)) := by
  obtain ⟨h0, h1, h2⟩ := parse_toks h
  obtain ⟨_, hf⟩ := form_scan h
  have hlen : (wantC 0 (toksN x)).length = (someS s).1.length := by rw [wantC_len, h2]; unfold segI; simp
  have key : ∀ p, p < (someS s).1.length → ∃ T' : Tk, (wantC 0 (toksN x))[p]? = some T' ∧ T'.kind = kindT (someS s).1 p ∧ T'.text = textT (someS s).1 p ∧ (formS s).extract T'.fr T'.to = ⟨(bytesI s (someS s).1 p).toArray⟩ := by
    intro p hp
    have hc : (toksN x)[p]? = some (canI s (someS s).1 p) := by
      rw [h2]; unfold segI
      rw [List.getElem?_map, List.getElem?_range' hp]
      simp
    obtain ⟨T', g1, g2, g3, g4⟩ := wantC_get (toksN x) [] p _ hc
    exact ⟨T', g1, g2, g3, by rw [hf]; exact g4⟩
  have out : ∀ p, ¬ p < (someS s).1.length → (wantC 0 (toksN x))[p]? = none ∧ (someS s).1[p]? = none := fun p hp => ⟨List.getElem?_eq_none (by omega), List.getElem?_eq_none (by omega)⟩
  refine ⟨hlen, fun p => ?_, fun p => ?_, fun p hk => ?_⟩
  · by_cases hp : p < (someS s).1.length
    · obtain ⟨T', g1, g2, _⟩ := key p hp
      rw [← g2]; unfold kindT; rw [g1]
    · obtain ⟨n1, n2⟩ := out p hp
      unfold kindT; rw [n1, n2]
  · by_cases hp : p < (someS s).1.length
    · obtain ⟨T', g1, _, g3, _⟩ := key p hp
      rw [← g3]; unfold textT; rw [g1]
    · obtain ⟨n1, n2⟩ := out p hp
      unfold textT; rw [n1, n2]
  · by_cases hp : p < (someS s).1.length
    · obtain ⟨T', g1, _, _, g4⟩ := key p hp
      have : wordT (formS s) (wantC 0 (toksN x)) p = (formS s).extract T'.fr T'.to := by unfold wordT; rw [g1]
      rw [this, g4]
      unfold bytesI
      rw [hk]
      rfl
    · obtain ⟨n1, n2⟩ := out p hp
      unfold wordT; rw [n1, n2]
theorem form_same {s : ByteArray} {x : Nd} {q : Nat} (h : parseS s = .ok x q) : SameR (parseS s) (parseS (formS s)) := by
  obtain ⟨h1, _⟩ := form_scan h
  refine parse_alike (parse_toks h).1 (by rw [h1]) ?_
  rw [h1]
  exact form_alike h
theorem sum_chain {s : ByteArray} : ∀ (ts : List Tk) (p : Nat), Chain s p ts → (∀ T ∈ ts, T.fr ≤ T.to) → p + sumT ts ≤ s.size
  | [], p, h, _ => by rw [sumT]; exact h.1
  | T :: r, p, h, hb => by
    have h1 := sum_chain r T.to h.2.2.2.2 (fun x hx => hb x (List.mem_cons_of_mem _ hx))
    have h2 := hb T (List.mem_cons_self ..)
    have h3 := h.1
    rw [sumT]
    omega
theorem seg_len {s : ByteArray} {ts : List Tk} (H : ∀ p T, ts[p]? = some T → (bytesI s ts p).length ≤ 8 * (T.to - T.fr)) : ∀ (r : List Tk) (p : Nat), (∀ j, r[j]? = ts[p + j]?) → (flatC (segI s ts p r.length)).length ≤ 8 * sumT r
  | [], p, _ => by rw [List.length_nil]; exact Nat.le_refl _
  | T :: r, p, h => by
    have h0 := h 0
    rw [List.getElem?_cons_zero, Nat.add_zero] at h0
    have h1 := seg_len H r (p + 1) (fun j => by
      have := h (j + 1)
      rw [List.getElem?_cons_succ] at this
      rw [this]; congr 1; omega)
    have h2 := H p T h0.symm
    rw [List.length_cons, segI_cons, flatC_cons, List.length_append, sumT]
    show (bytesI s ts p).length + _ ≤ _
    omega
theorem form_len {s : ByteArray} {x : Nd} {q : Nat} (h : parseS s = .ok x q) : (fmtN x).length ≤ 8 * s.size := by
  obtain ⟨h0, h1, h2⟩ := parse_toks h
  obtain ⟨hu, hch, _⟩ := some_chain h0
  have hb := some_tok h0
  have hs := sum_chain (someS s).1 0 hch (fun T hT => Nat.le_of_lt (hb T hT).1)
  have := seg_len (s := s) (ts := (someS s).1) (fun p T hT => by
    obtain ⟨b1, b2, b3, b4⟩ := hb T (List.mem_of_getElem? hT)
    have hf := one_fr (by omega) b3 b4
    have ht : textT (someS s).1 p = T.text := by unfold textT; rw [hT]
    have hw : (wordT s (someS s).1 p).size = T.to - T.fr := by unfold wordT; rw [hT]; show (s.extract T.fr T.to).size = _; rw [ByteArray.size_extract]; omega
    have hq := qN_len T.text
    have hl : (wordT s (someS s).1 p).data.toList.length = (wordT s (someS s).1 p).size := by rw [Array.length_toList]; rfl
    have htl := hf.2.2.2.2.1
    unfold bytesI
    rw [ht]
    repeat' split
    all_goals first | (rw [hl, hw]; omega) | (simp [litNull, litFlag]; omega) | omega) (someS s).1 0 (fun j => by rw [Nat.zero_add])
  rw [← h2, flat_fmt] at this
  omega
theorem form_sum {s : ByteArray} {x : Nd} {q : Nat} (h : parseS s = .ok x q) : sumT (wantC 0 (toksN x)) = (formS s).size := by
  obtain ⟨_, hf⟩ := form_scan h
  rw [sum_want, hf, size_mk]

end Go.Proofs.YtibopkodoidjoaaGreatDoor

/- Package tree, plain laws: the places of nodes; steps and paths, places aside. No program in sight. -/
namespace Go.Proofs.YtibopkodoidjoaaGreatDoor
open Go Go.RowKit

/-- A node's place. -/
def topP : Nd → Nat
  | .null p => p
  | .flag p _ => p
  | .num p _ => p
  | .text p _ => p
  | .lst p _ => p
  | .obj p _ => p
mutual
/-- All places are below n. -/
def allPl (n : Nat) : Nd → Prop
  | .null p => p < n
  | .flag p _ => p < n
  | .num p _ => p < n
  | .text p _ => p < n
  | .lst p xs => p < n ∧ allPlL n xs
  | .obj p xs => p < n ∧ allPlM n xs
def allPlL (n : Nat) : List Nd → Prop
  | [] => True
  | x :: xs => allPl n x ∧ allPlL n xs
def allPlM (n : Nat) : List (ByteArray × Nat × Nd) → Prop
  | [] => True
  | (_, _, x) :: xs => allPl n x ∧ allPlM n xs
end
theorem allPl_top {n : Nat} {x : Nd} (h : allPl n x) : topP x < n := by
  cases x <;> rw [allPl] at h <;> first | exact h | exact h.1
theorem allPlL_mem {n : Nat} : ∀ {xs : List Nd}, allPlL n xs → ∀ x ∈ xs, allPl n x
  | [], _, x, h => by cases h
  | y :: xs, h, x, hx => by
    rw [allPlL] at h
    rcases List.mem_cons.1 hx with rfl | hx
    · exact h.1
    · exact allPlL_mem h.2 x hx
theorem allPlM_find {n : Nat} {key : ByteArray} {y : Nd} : ∀ {xs : List (ByteArray × Nat × Nd)}, allPlM n xs → findM key xs = some y → allPl n y
  | [], _, h => by cases h
  | (k, p, x) :: xs, h, hy => by
    rw [allPlM] at h
    rw [findM] at hy
    split at hy
    · cases hy; exact h.1
    · exact allPlM_find h.2 hy
theorem p_place {s : ByteArray} {ts : List Tk} {n : Nat} (hp : ∀ p, p < ts.length → placeT s ts p < n) : ∀ f,
    (∀ deep p x q, pV s ts f deep p = .ok x q → allPl n x) ∧
    (∀ deep p xs q, pI s ts f deep p = .ok xs q → allPlL n xs) ∧
    (∀ deep seen p xs q, pM s ts f deep seen p = .ok xs q → allPlM n xs)
  | 0 => ⟨(fun _ _ _ _ h => by rw [pV] at h; cases h), (fun _ _ _ _ h => by rw [pI] at h; cases h), (fun _ _ _ _ _ h => by rw [pM] at h; cases h)⟩
  | f + 1 => by
    obtain ⟨iV, iI, iM⟩ := p_place hp f
    have hk : ∀ p, kindT ts p ≠ 0 → placeT s ts p < n := fun p h => hp p (kindT_lt h)
    refine ⟨?_, ?_, ?_⟩
    · intro deep p x q h
      rw [pV] at h
      split at h
      · cases h; exact hk p (by omega)
      split at h
      · cases h; exact hk p (by omega)
      split at h
      · cases h; exact hk p (by omega)
      split at h
      · cases h; exact hk p (by omega)
      split at h
      · cases h; exact hk p (by omega)
      split at h
      · rename_i k8
        have h0 := hk p (by omega)
        split at h
        · cases h
        · by_cases h9 : kindT ts (p + 1) = 9
          · rw [if_pos h9] at h; cases h; exact ⟨h0, trivial⟩
          · rw [if_neg h9] at h
            cases hI : pI s ts f deep (p + 1) with
            | ok xs r => rw [hI] at h; cases h; exact ⟨h0, iI _ _ _ _ hI⟩
            | err k pl => rw [hI] at h; cases h
            | out => rw [hI] at h; cases h
      split at h
      · rename_i k6
        have h0 := hk p (by omega)
        split at h
        · cases h
        · by_cases h9 : kindT ts (p + 1) = 7
          · rw [if_pos h9] at h; cases h; exact ⟨h0, trivial⟩
          · rw [if_neg h9] at h
            cases hI : pM s ts f deep [] (p + 1) with
            | ok xs r => rw [hI] at h; cases h; exact ⟨h0, iM _ _ _ _ _ hI⟩
            | err k pl => rw [hI] at h; cases h
            | out => rw [hI] at h; cases h
      cases h
    · intro deep p xs q h
      rw [pI] at h
      cases hV : pV s ts f (deep + 1) p with
      | err k pl => rw [hV] at h; cases h
      | out => rw [hV] at h; cases h
      | ok x r =>
        rw [hV] at h
        dsimp only at h
        cases hr : rest s ts 9 r with
        | err k pl => rw [hr] at h; cases h
        | out => rw [hr] at h; cases h
        | ok b r' =>
          rw [hr] at h
          cases b with
          | true => cases h; exact ⟨iV _ _ _ _ hV, trivial⟩
          | false =>
            dsimp only at h
            cases hI : pI s ts f deep r' with
            | ok ys r => rw [hI] at h; cases h; exact ⟨iV _ _ _ _ hV, iI _ _ _ _ hI⟩
            | err k pl => rw [hI] at h; cases h
            | out => rw [hI] at h; cases h
    · intro deep seen p xs q h
      rw [pM] at h
      split at h
      · split at h
        · cases h
        · split at h
          · cases hV : pV s ts f (deep + 1) (p + 2) with
            | err k pl => rw [hV] at h; cases h
            | out => rw [hV] at h; cases h
            | ok x r =>
              rw [hV] at h
              dsimp only at h
              cases hr : rest s ts 7 r with
              | err k pl => rw [hr] at h; cases h
              | out => rw [hr] at h; cases h
              | ok b r' =>
                rw [hr] at h
                cases b with
                | true => cases h; exact ⟨iV _ _ _ _ hV, trivial⟩
                | false =>
                  dsimp only at h
                  cases hI : pM s ts f deep (seen ++ [textT ts p]) r' with
                  | ok ys r => rw [hI] at h; cases h; exact ⟨iV _ _ _ _ hV, iM _ _ _ _ _ hI⟩
                  | err k pl => rw [hI] at h; cases h
                  | out => rw [hI] at h; cases h
          · cases h
      · cases h
theorem parse_place {s : ByteArray} {x : Nd} {q : Nat} (h : parseS s = .ok x q) : allPl s.size x := by
  obtain ⟨h0, h1, _⟩ := parse_toks h
  unfold parseS at h
  rw [if_pos h0] at h
  refine (p_place (s := s) (fun p hp => ?_) _).1 _ _ _ _ (parse_pV h).1
  have hT : (someS s).1[p]? = some (someS s).1[p] := List.getElem?_eq_getElem _
  have hb := some_tok h0 _ (List.getElem_mem hp)
  have : placeT s (someS s).1 p = ((someS s).1[p]).fr := by unfold placeT; rw [hT]
  rw [this]
  omega
theorem step_place {n : Nat} {x y : Nd} {key : ByteArray} {k : Nat} (h : allPl n x) (hs : stepN x key = .ok y k) : allPl n y := by
  cases x with
  | lst p xs =>
    rw [stepN] at hs
    rw [allPl] at h
    split at hs
    · split at hs
      · cases hs
      · split at hs
        · rename_i z hz
          cases hs
          exact allPlL_mem h.2 _ (List.mem_of_getElem? hz)
        · cases hs
    · cases hs
  | obj p xs =>
    rw [stepN] at hs
    rw [allPl] at h
    split at hs
    · rename_i z hz
      cases hs
      exact allPlM_find h.2 hz
    · cases hs
  | null p => cases hs
  | flag p b => cases hs
  | num p t => cases hs
  | text p t => cases hs
theorem path_place {n : Nat} {y : Nd} {k : Nat} : ∀ (bs : List ByteArray) (x : Nd), allPl n x → pathN x bs = .ok y k → topP y < n
  | [], x, h, hp => by rw [pathN] at hp; cases hp; exact allPl_top h
  | key :: r, x, h, hp => by
    rw [pathN] at hp
    cases hs : stepN x key with
    | ok z j => rw [hs] at hp; exact path_place r z (step_place h hs) hp
    | err k pl => rw [hs] at hp; cases hp
    | out => rw [hs] at hp; cases hp
/-! ### Places aside -/
mutual
theorem strip_strip : ∀ x : Nd, x.strip.strip = x.strip
  | .null _ => rfl
  | .flag _ _ => rfl
  | .num _ _ => rfl
  | .text _ _ => rfl
  | .lst _ xs => by rw [Nd.strip, Nd.strip, stripL_strip]
  | .obj _ xs => by rw [Nd.strip, Nd.strip, stripM_strip]
theorem stripL_strip : ∀ xs : List Nd, stripL (stripL xs) = stripL xs
  | [] => by rw [stripL, stripL]
  | x :: xs => by rw [stripL, stripL, strip_strip x, stripL_strip xs]
theorem stripM_strip : ∀ xs : List (ByteArray × Nat × Nd), stripM (stripM xs) = stripM xs
  | [] => by rw [stripM, stripM]
  | (k, p, x) :: xs => by rw [stripM, stripM, strip_strip x, stripM_strip xs]
end
theorem stripL_get : ∀ (xs : List Nd) (i : Nat), (stripL xs)[i]? = (xs[i]?).map Nd.strip
  | [], i => by rw [stripL]; simp
  | x :: xs, 0 => by rw [stripL]; rfl
  | x :: xs, i + 1 => by rw [stripL, List.getElem?_cons_succ, List.getElem?_cons_succ, stripL_get xs]
theorem stripL_len : ∀ xs : List Nd, (stripL xs).length = xs.length
  | [] => by rw [stripL]
  | x :: xs => by rw [stripL, List.length_cons, List.length_cons, stripL_len xs]
theorem stripM_find (key : ByteArray) : ∀ xs : List (ByteArray × Nat × Nd), findM key (stripM xs) = (findM key xs).map Nd.strip
  | [] => by rw [stripM]; rfl
  | (k, p, x) :: xs => by
    rw [stripM, findM, findM]
    split
    · rfl
    · exact stripM_find key xs
theorem step_strip (x : Nd) (key : ByteArray) : (stepN x.strip key).strip Nd.strip = (stepN x key).strip Nd.strip := by
  cases x with
  | lst p xs =>
    rw [Nd.strip, stepN, stepN, stripL_len, stripL_get]
    split
    · split
      · rfl
      · cases xs[(numV key).toNat]? with
        | none => rfl
        | some y => simp only [Option.map_some, PR.strip, strip_strip]
    · rfl
  | obj p xs =>
    rw [Nd.strip, stepN, stepN, stripM_find]
    cases findM key xs with
    | none => rfl
    | some y => simp only [Option.map_some, PR.strip, strip_strip]
  | null p => rfl
  | flag p b => rfl
  | num p t => rfl
  | text p t => rfl
theorem path_strip : ∀ (bs : List ByteArray) (x y : Nd), y.strip = x.strip → (pathN y bs).strip Nd.strip = (pathN x bs).strip Nd.strip
  | [], x, y, h => by rw [pathN, pathN, PR.strip, PR.strip, h]
  | key :: r, x, y, h => by
    have h1 : (stepN y key).strip Nd.strip = (stepN x key).strip Nd.strip := by rw [← step_strip y, ← step_strip x, h]
    rw [pathN, pathN]
    revert h1
    cases stepN y key <;> cases stepN x key <;> intro h1 <;> (try (simp [PR.strip] at h1 ⊢; done)) <;> try (simp [PR.strip] at h1; simp [PR.strip, h1]; done)
    rename_i a i b j
    simp only [PR.strip, PR.ok.injEq] at h1
    exact path_strip r b a h1.1
theorem path_same {x y : Nd} (h : y.strip = x.strip) (bs : List ByteArray) : SameR (pathN x bs) (pathN y bs) := same_of_strip (path_strip bs x y h)
theorem name_strip {x y : Nd} (h : y.strip = x.strip) : nameN y = nameN x := by
  have : ∀ z : Nd, nameN z.strip = nameN z := fun z => by cases z <;> rfl
  rw [← this y, h, this]
theorem path_err {k pl : Nat} : ∀ (bs : List ByteArray) (x : Nd), pathN x bs = .err k pl → k = 5 ∨ k = 6 ∨ k = 12
  | [], x, h => by rw [pathN] at h; cases h
  | key :: r, x, h => by
    rw [pathN] at h
    cases hs : stepN x key with
    | ok z j => rw [hs] at h; exact path_err r z h
    | out => rw [hs] at h; cases h
    | err j pl2 =>
      rw [hs] at h
      cases h
      cases x <;> simp only [stepN] at hs
      all_goals
        repeat' split at hs
      all_goals first | (cases hs; omega) | cases hs

end Go.Proofs.YtibopkodoidjoaaGreatDoor

/- errors.As at the target **api.At, the error an *api.At: Go's own text walked. (Lines of the kit's worked example of errors.As, turned to this program.) -/
namespace Go.Proofs.YtibopkodoidjoaaGreatDoor
open Go Go.RowKit Go.Extern.Stop Go.Stop Go.Extern

theorem asvalueOf27 (t : Addr) (w : World) : (ReflectliteValue.unpack (.iface 84 (.pointer (some t)))).run Tryz.prog w
    = .ok (.agg #[.pointer (some ⟨28, 84, none⟩), .pointer (some ⟨w.heap.size, 0, none⟩), .int .u64 150]) (w.alloc (.cells #[.pointer (some t)] 84)) := by kernel_rfl
theorem astype27 (a : Addr) (w : World) : (ReflectliteValue.methodAny (ReflectliteValue.valueError "reflectlite.Value.Type" 0) (fun t _ _ _ => ReflectliteType.toType t) #[.agg #[.pointer (some ⟨28, 84, none⟩), .pointer (some a), .int .u64 150]]).run Tryz.prog w
    = .ok (.iface 169 (.agg #[.pointer (some ⟨28, 84, none⟩)])) w := by kernel_rfl
theorem asmethodKind (d : Nat) (h : Value) (w : World) : (Go.method (d + 8) 169 (.agg #[h]) "Kind").run Tryz.prog w = .ok (169, h) w := by kernel_rfl
theorem askind27 (w : World) : ((ReflectliteType.abiMethod fun t => (fun a : Nat => Value.int IntKind.u8 (a : Int)) <$> Rtype.kind t) #[.pointer (some ⟨28, 84, none⟩)]).run Tryz.prog w = .ok (.int .u8 22) w := by kernel_rfl
theorem askind25 (w : World) : ((ReflectliteType.abiMethod fun t => (fun a : Nat => Value.int IntKind.u8 (a : Int)) <$> Rtype.kind t) #[.pointer (some ⟨28, 69, none⟩)]).run Tryz.prog w = .ok (.int .u8 22) w := by kernel_rfl

theorem rlm (z : Sem Value) (f : TypeId → Addr → Nat → Nat → Sem Value) (v : Value) :
    ReflectliteValue.method z f #[v] = (do match ← ReflectliteValue.parts v with | none => z | some (t, a, fl) => f t a fl (fl % 32)) := rfl
theorem asparts27 (a : Addr) (w : World) : (ReflectliteValue.parts (.agg #[.pointer (some ⟨28, 84, none⟩), .pointer (some a), .int .u64 150])).run Tryz.prog w = .ok (some (84, a, 150)) w := by kernel_rfl
theorem asisNil27 (a p : Addr) (W : World) (ha : W.cell? a = some (.pointer (some p))) :
    (ReflectliteValue.method (ReflectliteValue.valueError "reflectlite.Value.IsNil" 0) ReflectliteValue.isNil #[.agg #[.pointer (some ⟨28, 84, none⟩), .pointer (some a), .int .u64 150]]).run Tryz.prog W = .ok (.bool false) W := by
  rw [rlm]
  simp only [Sem.run_bind, asparts27, Result.andThen]
  simp [ReflectliteValue.isNil, loadVar, isAgg, underlying, Tryz.underlying84, ha, Result.andThen]

theorem asmethodElem (d : Nat) (h : Value) (w : World) : (Go.method (d + 8) 169 (.agg #[h]) "Elem").run Tryz.prog w = .ok (181, .agg #[h]) w := by kernel_rfl
theorem asmethodImplements (d : Nat) (h : Value) (w : World) : (Go.method (d + 8) 169 (.agg #[h]) "Implements").run Tryz.prog w = .ok (182, .agg #[h]) w := by kernel_rfl
theorem asmethodAssignableTo (d : Nat) (h : Value) (w : World) : (Go.method (d + 8) 169 (.agg #[h]) "AssignableTo").run Tryz.prog w = .ok (179, .agg #[h]) w := by kernel_rfl
theorem aselem27 (w : World) : (ReflectliteType.method ReflectliteType.elem #[.agg #[.pointer (some ⟨28, 84, none⟩)]]).run Tryz.prog w = .ok (.iface 169 (.agg #[.pointer (some ⟨28, 69, none⟩)])) w := by kernel_rfl
theorem asimplements25 (w : World) : (ReflectliteType.relation "Implements" ReflectliteType.implements_ #[.agg #[.pointer (some ⟨28, 69, none⟩)], .iface 169 (.agg #[.pointer (some ⟨28, 26, none⟩)])]).run Tryz.prog w = .ok (.bool true) w := by kernel_rfl
theorem astypeOf25 (v : Value) (w : World) : (ReflectliteType.typeOf #[.iface 69 v]).run Tryz.prog w = .ok (.iface 169 (.agg #[.pointer (some ⟨28, 69, none⟩)])) w := by kernel_rfl
theorem asassignable25 (w : World) : (ReflectliteType.relation "AssignableTo" ReflectliteType.assignableTo #[.agg #[.pointer (some ⟨28, 69, none⟩)], .iface 169 (.agg #[.pointer (some ⟨28, 69, none⟩)])]).run Tryz.prog w = .ok (.bool true) w := by kernel_rfl
theorem asvalueOf25 (e : Addr) (w : World) : (ReflectliteValue.unpack (.iface 69 (.pointer (some e)))).run Tryz.prog w
    = .ok (.agg #[.pointer (some ⟨28, 69, none⟩), .pointer (some ⟨w.heap.size, 0, none⟩), .int .u64 150]) (w.alloc (.cells #[.pointer (some e)] 69)) := by kernel_rfl

theorem aselemOf27 (w : World) : (Rtype.elem? 84).run Tryz.prog w = .ok (some 69) w := by kernel_rfl
theorem asmk25 (p : Addr) (w : World) : (ReflectliteValue.mk 69 p ReflectliteValue.flagAddr).run Tryz.prog w = .ok (.agg #[.pointer (some ⟨28, 69, none⟩), .pointer (some p), .int .u64 406]) w := by kernel_rfl
theorem aselemV27 (a p : Addr) (W : World) (ha : W.cell? a = some (.pointer (some p))) :
    (ReflectliteValue.method (ReflectliteValue.valueError "reflectlite.Value.Elem" 0) ReflectliteValue.elem #[.agg #[.pointer (some ⟨28, 84, none⟩), .pointer (some a), .int .u64 150]]).run Tryz.prog W
      = .ok (.agg #[.pointer (some ⟨28, 69, none⟩), .pointer (some p), .int .u64 406]) W := by
  rw [rlm]
  simp only [Sem.run_bind, asparts27, Result.andThen]
  simp [ReflectliteValue.elem, loadVar, isAgg, underlying, Tryz.underlying84, ha, Result.andThen, aselemOf27, asmk25]
theorem rls (v x : Value) : ReflectliteValue.set #[v, x] = (do
    let (some (dst, a, fl), some (src, b, _)) := (← ReflectliteValue.parts v, ← ReflectliteValue.parts x)
      | unsupported (.noEntry "extern/(internal/reflectlite.Value).Set.zeroValue")
    if fl / ReflectliteValue.flagAddr % 2 == 0 then unsupported (.noEntry "extern/(internal/reflectlite.Value).Set.unaddressable")
    let val ← loadVar src b
    if ← Rtype.directlyAssignable dst src then storeVar dst a val
    else if ← Rtype.implements dst src then
      if (← Rtype.kind src) == 20 then
        match val with
        | .nilIface => unsupported (.noEntry "extern/reflectlite: a nil value of one interface type handed on as a value of another")
        | _ => storeVar dst a val
      else storeVar dst a (.iface src val)
    else panicString ("reflectlite.Set: value of type " ++ (← Rtype.spelt src) ++ " is not assignable to type " ++ (← Rtype.spelt dst))
    pure (.tuple #[])) := rfl
theorem asparts25a (a : Addr) (w : World) : (ReflectliteValue.parts (.agg #[.pointer (some ⟨28, 69, none⟩), .pointer (some a), .int .u64 406])).run Tryz.prog w = .ok (some (69, a, 406)) w := by kernel_rfl
theorem asparts25 (a : Addr) (w : World) : (ReflectliteValue.parts (.agg #[.pointer (some ⟨28, 69, none⟩), .pointer (some a), .int .u64 150])).run Tryz.prog w = .ok (some (69, a, 150)) w := by kernel_rfl
theorem asdirect25 (w : World) : (Rtype.directlyAssignable 69 69).run Tryz.prog w = .ok true w := by kernel_rfl
theorem assize25 (w : World) : (sizeOf 69).run Tryz.prog w = .ok 1 w := by kernel_rfl
theorem asset25 (ta b e : Addr) (old : Value) (W : World) (hb : W.cell? b = some (.pointer (some e))) (ht : W.cell? ta = some old) (hf : W.frozen? ta = false) :
    (ReflectliteValue.set #[.agg #[.pointer (some ⟨28, 69, none⟩), .pointer (some ta), .int .u64 406], .agg #[.pointer (some ⟨28, 69, none⟩), .pointer (some b), .int .u64 150]]).run Tryz.prog W
      = .ok (.tuple #[]) (W.setCell ta (.pointer (some e))) := by
  rw [rls]
  simp only [Sem.run_bind, asparts25a, asparts25, Result.andThen]
  simp [ReflectliteValue.flagAddr, loadVar, isAgg, underlying, Tryz.underlying69, hb, Result.andThen, asdirect25, storeVar, Value.cells, storeCells, Addr.add]
  rw [run_store Tryz.prog W ta _ _ (by rfl)]
  simp [ht, hf]

set_option maxHeartbeats 4000000 in
theorem as_hit (e t : Addr) (old : Value) (w : World) (hg : w.cell? ⟨2, 0, none⟩ = some (.iface 169 (.agg #[.pointer (some ⟨28, 26, none⟩)]))) (ht0 : w.cell? t = some old) (hf0 : w.frozen? t = false) :
    Calls Tryz.prog 37 #[.iface 69 (.pointer (some e)), .iface 84 (.pointer (some t))] w fun ev w' => ev = .returned (.bool true) ∧ w' = ((((w.alloc (.cells #[.pointer (some t)] 84)).alloc (.cells #[.pointer (some ⟨28, 84, none⟩), .pointer (some ⟨w.heap.size, 0, none⟩), .int .u64 150] 132)).alloc (.cells #[.pointer (some ⟨28, 84, none⟩), .pointer (some ⟨w.heap.size, 0, none⟩), .int .u64 150] 132)).alloc (.cells #[.pointer (some e)] 69)).setCell t (.pointer (some e)) := by
  have h6 := @run_callFunc_extern Tryz.prog 64 _ (fun args => ReflectliteValue.unpack (args.getD 0 (.tuple #[]))) Tryz.func64 (by kernel_rfl) (by kernel_rfl) (by kernel_rfl) (by kernel_rfl)
  have h7 := @run_callFunc_extern Tryz.prog 65 _ (ReflectliteValue.methodAny (ReflectliteValue.valueError "reflectlite.Value.Type" 0) (fun t _ _ _ => ReflectliteType.toType t)) Tryz.func65 (by kernel_rfl) (by kernel_rfl) (by kernel_rfl) (by kernel_rfl)
  have h8 := @run_callFunc_extern Tryz.prog 66 _ (ReflectliteValue.method (ReflectliteValue.valueError "reflectlite.Value.IsNil" 0) ReflectliteValue.isNil) Tryz.func66 (by kernel_rfl) (by kernel_rfl) (by kernel_rfl) (by kernel_rfl)
  have h27 := @run_callFunc_extern Tryz.prog 169 _ (ReflectliteType.abiMethod fun t => do pure (.int .u8 (← Rtype.kind t))) Tryz.func169 (by kernel_rfl) (by kernel_rfl) (by kernel_rfl) (by kernel_rfl)
  have h37 := @run_callFunc_extern Tryz.prog 181 _ (ReflectliteType.method ReflectliteType.elem) Tryz.func181 (by kernel_rfl) (by kernel_rfl) (by kernel_rfl) (by kernel_rfl)
  have h38 := @run_callFunc_extern Tryz.prog 182 _ (ReflectliteType.relation "Implements" ReflectliteType.implements_) Tryz.func182 (by kernel_rfl) (by kernel_rfl) (by kernel_rfl) (by kernel_rfl)
  have h10 := @run_callFunc_extern Tryz.prog 85 _ ReflectliteType.typeOf Tryz.func85 (by kernel_rfl) (by kernel_rfl) (by kernel_rfl) (by kernel_rfl)
  have h35 := @run_callFunc_extern Tryz.prog 179 _ (ReflectliteType.relation "AssignableTo" ReflectliteType.assignableTo) Tryz.func179 (by kernel_rfl) (by kernel_rfl) (by kernel_rfl) (by kernel_rfl)
  have h11 := @run_callFunc_extern Tryz.prog 86 _ (ReflectliteValue.method (ReflectliteValue.valueError "reflectlite.Value.Elem" 0) ReflectliteValue.elem) Tryz.func86 (by kernel_rfl) (by kernel_rfl) (by kernel_rfl) (by kernel_rfl)
  have h12 := @run_callFunc_extern Tryz.prog 87 _ ReflectliteValue.set Tryz.func87 (by kernel_rfl) (by kernel_rfl) (by kernel_rfl) (by kernel_rfl)
  have tO := astypeOf25
  have mA := asmethodAssignableTo
  have a25 := asassignable25
  have v25 := asvalueOf25
  have f6 := asvalueOf27
  have f7 := astype27
  have mK := asmethodKind
  have mE := asmethodElem
  have mI := asmethodImplements
  have k27 := askind27
  have k25 := askind25
  have e27 := aselem27
  have i25 := asimplements25
  have n8 := asisNil27 ⟨w.heap.size, 0, none⟩ t ((w.alloc (.cells #[.pointer (some t)] 84)).alloc (.cells #[.pointer (some ⟨28, 84, none⟩), .pointer (some ⟨w.heap.size, 0, none⟩), .int .u64 150] 132)) (by simp)
  have hlt : 2 < w.heap.size := by
    rcases Nat.lt_or_ge 2 w.heap.size with h | h
    · exact h
    · simp [World.cell?, Array.getElem?_eq_none h] at hg
  have hg2 : ((w.alloc (.cells #[.pointer (some t)] 84)).alloc (.cells #[.pointer (some ⟨28, 84, none⟩), .pointer (some ⟨w.heap.size, 0, none⟩), .int .u64 150] 132)).cell? ⟨2, 0, none⟩ = some (.iface 169 (.agg #[.pointer (some ⟨28, 26, none⟩)])) := by
    rw [World.cell?_alloc_lt _ _ ⟨2, 0, none⟩ (by simp <;> omega), World.cell?_alloc_lt _ _ ⟨2, 0, none⟩ hlt]; exact hg
  have htl : t.block < w.heap.size := by
    rcases Nat.lt_or_ge t.block w.heap.size with h | h
    · exact h
    · simp [World.cell?, Array.getElem?_eq_none h] at ht0
  have el := aselemV27 ⟨w.heap.size, 0, none⟩ t (((w.alloc (.cells #[.pointer (some t)] 84)).alloc (.cells #[.pointer (some ⟨28, 84, none⟩), .pointer (some ⟨w.heap.size, 0, none⟩), .int .u64 150] 132)).alloc (.cells #[.pointer (some ⟨28, 84, none⟩), .pointer (some ⟨w.heap.size, 0, none⟩), .int .u64 150] 132)) (by rw [World.cell?_alloc_lt _ _ ⟨w.heap.size, 0, none⟩ (by simp; omega)]; simp)
  have st := asset25 t ⟨w.heap.size + 1 + 1 + 1, 0, none⟩ e old ((((w.alloc (.cells #[.pointer (some t)] 84)).alloc (.cells #[.pointer (some ⟨28, 84, none⟩), .pointer (some ⟨w.heap.size, 0, none⟩), .int .u64 150] 132)).alloc (.cells #[.pointer (some ⟨28, 84, none⟩), .pointer (some ⟨w.heap.size, 0, none⟩), .int .u64 150] 132)).alloc (.cells #[.pointer (some e)] 69))
    (by rw [World.cell?_alloc_at _ _ _ _ (by simp)]; rfl)
    (by rw [World.cell?_alloc_lt _ _ t (by simp; omega), World.cell?_alloc_lt _ _ t (by simp; omega), World.cell?_alloc_lt _ _ t (by simp; omega), World.cell?_alloc_lt _ _ t htl]; exact ht0)
    (by rw [World.frozen?_alloc_old _ _ t (by simp; omega), World.frozen?_alloc_old _ _ t (by simp; omega), World.frozen?_alloc_old _ _ t (by simp; omega), World.frozen?_alloc_old _ _ t (Nat.ne_of_lt htl)]; exact hf0)
  go_enter Tryz.func37, Tryz.ntmps37
  go_wp2
  refine wp_loop_rounds 1 ?_
  rw [rounds_succ]
  go_wp2
  go_ret
  exact ⟨rfl, rfl⟩

end Go.Proofs.YtibopkodoidjoaaGreatDoor

/- The statements of chapter 18: errors.As as a contract; lives. -/
namespace Go.Proofs.YtibopkodoidjoaaGreatDoor
open Go Go.RowKit

/-- The package variables, and that of package errors. -/
structure EnvA (A : Nat → Addr) (B : Nat) (w : World) : Prop where
  env : Env A B SVN w
  et : w.cell? ⟨2, 0, none⟩ = some (.iface 169 (.agg #[.pointer (some ⟨28, 26, none⟩)]))
  lt : 2 < B
theorem EnvA.next {A : Nat → Addr} {B : Nat} {w w' : World} (h : EnvA A B w) (hb : Below w.heap.size w w') : EnvA A B w' :=
  ⟨h.env.next hb, (hb.cell (p := ⟨_, _, none⟩) (Nat.lt_of_lt_of_le h.lt h.env.hB)).trans h.et, h.lt⟩
theorem EnvA.below {A : Nat → Addr} {B : Nat} {w w' : World} (h : EnvA A B w) (hb : Below B w w') : EnvA A B w' :=
  ⟨h.env.below hb, (hb.cell (p := ⟨_, _, none⟩) h.lt).trans h.et, h.lt⟩
theorem As_calls {A : Nat → Addr} {B : Nat} (g t : Nat) (old : Value) (w : World) (hE : EnvA A B w) (ht : w.heap[t]? = some (.cells #[old] 69 (0, 0))) :
    Calls Tryz.prog 37 #[.iface 69 (.pointer (some ⟨g, 0, none⟩)), .iface 84 (.pointer (some ⟨t, 0, none⟩))] w fun e w' => e = .returned (.bool true) ∧
      w'.heap[t]? = some (.cells #[.pointer (some ⟨g, 0, none⟩)] 69 (0, 0)) ∧ w.grownBy w' (some t) := by
  refine (as_hit ⟨g, 0, none⟩ ⟨t, 0, none⟩ old w hE.et (cellB ht 0 rfl) (freeB ht 0)).mono ?_
  rintro e w' ⟨rfl, rfl⟩
  refine ⟨rfl, ?_, ?_⟩
  · rw [Lib.heap_setCell_same (i := 0) (box_next (box_next (box_next (box_next ht ((Below.refl _ _).alloc (Nat.le_refl _) _)) ((Below.refl _ _).alloc (Nat.le_refl _) _)) ((Below.refl _ _).alloc (Nat.le_refl _) _)) ((Below.refl _ _).alloc (Nat.le_refl _) _))]
    rfl
  · exact grown_trans (grown_trans (grown_trans (grown_trans (World.grownBy_alloc _ _ _) (World.grownBy_alloc _ _ _)) (World.grownBy_alloc _ _ _)) (World.grownBy_alloc _ _ _)) (grown_set _ _ _ _)
/-- Two errors with places, and the two variables that errors.As fills. -/
structure AsS (A : Nat → Addr) (B : Nat) (w : World) (b1 b2 g1 g2 k : Nat) (p1 p2 : Int) (x1 x2 : Value) (W : World) : Prop where
  env : EnvA A B W
  bel : Below w.heap.size w W
  h1 : W.heap[b1]? = some (.cells #[x1] 69 (0, 0))
  h2 : W.heap[b2]? = some (.cells #[x2] 69 (0, 0))
  a1 : AtB p1 (.iface 237 (.pointer (some (A k)))) g1 W
  a2 : AtB p2 (.iface 237 (.pointer (some (A k)))) g2 W
  lt : w.heap.size ≤ b1 ∧ b1 < b2 ∧ g1 < b1 ∧ g2 < b1 ∧ B ≤ w.heap.size
theorem AsS.next {A : Nat → Addr} {B : Nat} {w : World} {b1 b2 g1 g2 k : Nat} {p1 p2 : Int} {x1 x2 : Value} {W W' : World} (h : AsS A B w b1 b2 g1 g2 k p1 p2 x1 x2 W) (hb : Below W.heap.size W W') : AsS A B w b1 b2 g1 g2 k p1 p2 x1 x2 W' :=
  ⟨h.env.next hb, bcall h.bel hb, box_next h.h1 hb, box_next h.h2 hb, box_next h.a1 hb, box_next h.a2 hb, h.lt⟩
theorem AsS.one {A : Nat → Addr} {B : Nat} {w : World} {b1 b2 g1 g2 k : Nat} {p1 p2 : Int} {x1 x2 y : Value} {W W' : World} (h : AsS A B w b1 b2 g1 g2 k p1 p2 x1 x2 W) (hy : W'.heap[b1]? = some (.cells #[y] 69 (0, 0))) (hg : W.grownBy W' (some b1)) : AsS A B w b1 b2 g1 g2 k p1 p2 y x2 W' := by
  obtain ⟨l1, l2, l3, l4, l5⟩ := h.lt
  have hW := h.bel.size
  have k1 := ltB h.h2
  refine ⟨h.env.below (grown_below hg (by omega) (by omega)), h.bel.trans (grown_below hg (by omega) (by omega)), hy, (hg.block b2 k1 (fun e => by have := Option.some.inj e; omega)).trans h.h2, ?_, ?_, h.lt⟩
  · exact (hg.block g1 (ltB h.a1) (fun e => by have := Option.some.inj e; omega)).trans h.a1
  · exact (hg.block g2 (ltB h.a2) (fun e => by have := Option.some.inj e; omega)).trans h.a2
theorem AsS.two {A : Nat → Addr} {B : Nat} {w : World} {b1 b2 g1 g2 k : Nat} {p1 p2 : Int} {x1 x2 y : Value} {W W' : World} (h : AsS A B w b1 b2 g1 g2 k p1 p2 x1 x2 W) (hy : W'.heap[b2]? = some (.cells #[y] 69 (0, 0))) (hg : W.grownBy W' (some b2)) : AsS A B w b1 b2 g1 g2 k p1 p2 x1 y W' := by
  obtain ⟨l1, l2, l3, l4, l5⟩ := h.lt
  have hW := h.bel.size
  have k1 := ltB h.h1
  refine ⟨h.env.below (grown_below hg (by omega) (by omega)), h.bel.trans (grown_below hg (by omega) (by omega)), (hg.block b1 k1 (fun e => by have := Option.some.inj e; omega)).trans h.h1, hy, ?_, ?_, h.lt⟩
  · exact (hg.block g1 (ltB h.a1) (fun e => by have := Option.some.inj e; omega)).trans h.a1
  · exact (hg.block g2 (ltB h.a2) (fun e => by have := Option.some.inj e; omega)).trans h.a2
theorem AsS.cells {A : Nat → Addr} {B : Nat} {w : World} {b1 b2 g1 g2 k : Nat} {p1 p2 : Int} {x1 x2 : Value} {W : World} (h : AsS A B w b1 b2 g1 g2 k p1 p2 x1 x2 W) :
    W.cell? ⟨b1, 0, none⟩ = some x1 ∧ W.cell? ⟨b2, 0, none⟩ = some x2 ∧ W.cell? ⟨g1, 1, none⟩ = some (.iface 237 (.pointer (some (A k)))) ∧ W.cell? ⟨g2, 1, none⟩ = some (.iface 237 (.pointer (some (A k)))) :=
  ⟨cellB h.h1 0 rfl, cellB h.h2 0 rfl, cellB h.a1 1 rfl, cellB h.a2 1 rfl⟩
def fix1 : ByteArray := ⟨#[91, 49, 44, 32, 34, 97, 34, 93]⟩
def fix2 : ByteArray := ⟨#[32, 123, 125, 32]⟩
theorem fix1_ok : parseS fix1 = .ok (.lst 0 [.num 1 ⟨#[49]⟩, .text 4 ⟨#[97]⟩]) 5 := by kernel_rfl
theorem fix1_form : formS fix1 = ⟨#[91, 49, 44, 34, 97, 34, 93]⟩ := by kernel_rfl
theorem fix2_ok : parseS fix2 = .ok (.obj 1 []) 2 := by kernel_rfl
set_option maxHeartbeats 1000000 in
set_option maxRecDepth 100000 in
theorem lives_calls {A : Nat → Addr} {B : Nat} (w : World) (hE : Env A B SVN w) : Calls Tryz.prog 8 #[] w fun e w' => e = .returned (.bool true) ∧ Below w.heap.size w w' := by
  have F : Hid (∀ w, Env A B SVN w → Calls Tryz.prog 15 #[.string ⟨#[91, 49, 44, 32, 34, 97, 34, 93]⟩] w fun e w' => e = .returned (.tuple #[.string ⟨#[91, 49, 44, 34, 97, 34, 93]⟩, .nilIface]) ∧ Below w.heap.size w w') := Lib.hid (fun w h => by
    refine (Format_calls fix1 w h (by decide)).mono ?_
    rintro e w' ⟨hr, hb⟩
    rw [fix1_ok, fix1_form] at hr
    exact ⟨hr, hb⟩)
  have N : Hid (∀ w, Env A B SVN w → Calls Tryz.prog 16 #[.string ⟨#[32, 123, 125, 32]⟩] w fun e w' => e = .returned (.tuple #[.string ⟨#[111, 98, 106, 101, 99, 116]⟩, .nilIface]) ∧ Below w.heap.size w w') := Lib.hid (fun w h => by
    refine (Name_calls fix2 w h (by decide)).mono ?_
    rintro e w' ⟨hr, hb⟩
    rw [fix2_ok] at hr
    exact ⟨hr, hb⟩)
  go_enter Tryz.func8, Tryz.ntmps8
  (go_wp2_with fail; repeat (any_goals (go_quiet (fail); go_wp2_with fail)))
  refine (F.out _ (hE.next (by repeat (first | assumption | exact Below.refl _ _ | apply Below.drew | apply below_drewN | apply balloc | (refine Below.setCell ?_ (by first | omega | (simp <;> omega)) _))))).mono ?_
  rintro e w1 ⟨rfl, hb⟩
  have hb1 : Below w.heap.size w w1 := bcall (by repeat (first | assumption | exact Below.refl _ _ | apply Below.drew | apply below_drewN | apply balloc | (refine Below.setCell ?_ (by first | omega | (simp <;> omega)) _))) hb
  clear hb
  (go_wp2_with fail; repeat (any_goals (go_quiet (fail); go_wp2_with fail)))
  refine (N.out _ (hE.next hb1)).mono ?_
  rintro e w2 ⟨rfl, hb⟩
  have hb2 : Below w.heap.size w w2 := bcall hb1 hb
  clear hb
  (go_wp2_with fail; repeat (any_goals (go_quiet (fail); go_wp2_with fail)))
  go_ret
  exact ⟨rfl, hb2⟩

end Go.Proofs.YtibopkodoidjoaaGreatDoor

/- TreeBack: the law walked: it answers true. -/
namespace Go.Proofs.YtibopkodoidjoaaGreatDoor
open Go Go.RowKit

@[go_sem] theorem na_AtNodeNull (d : Nat) (w : World) (p : Int) : (nilAhead (d + 3) 90 (.agg #[.int .i64 p]) "At").run Tryz.prog w = .ok (some false) w := by kernel_rfl
@[go_sem] theorem me_AtNodeNull (d : Nat) (w : World) (p : Int) : (method (d + 3) 90 (.agg #[.int .i64 p]) "At").run Tryz.prog w = .ok (174, .agg #[.int .i64 p]) w := by kernel_rfl
@[go_sem] theorem na_AtNodeFlag (d : Nat) (w : World) (p : Int) (b : Bool) : (nilAhead (d + 3) 92 (.agg #[.int .i64 p, .bool b]) "At").run Tryz.prog w = .ok (some false) w := by kernel_rfl
@[go_sem] theorem me_AtNodeFlag (d : Nat) (w : World) (p : Int) (b : Bool) : (method (d + 3) 92 (.agg #[.int .i64 p, .bool b]) "At").run Tryz.prog w = .ok (174, .agg #[.int .i64 p]) w := by kernel_rfl
@[go_sem] theorem na_AtNodeNumber (d : Nat) (w : World) (p : Int) (t : ByteArray) : (nilAhead (d + 3) 94 (.agg #[.int .i64 p, .string t]) "At").run Tryz.prog w = .ok (some false) w := by kernel_rfl
@[go_sem] theorem me_AtNodeNumber (d : Nat) (w : World) (p : Int) (t : ByteArray) : (method (d + 3) 94 (.agg #[.int .i64 p, .string t]) "At").run Tryz.prog w = .ok (174, .agg #[.int .i64 p]) w := by kernel_rfl
@[go_sem] theorem na_AtNodeText (d : Nat) (w : World) (p : Int) (t : ByteArray) : (nilAhead (d + 3) 95 (.agg #[.int .i64 p, .string t]) "At").run Tryz.prog w = .ok (some false) w := by kernel_rfl
@[go_sem] theorem me_AtNodeText (d : Nat) (w : World) (p : Int) (t : ByteArray) : (method (d + 3) 95 (.agg #[.int .i64 p, .string t]) "At").run Tryz.prog w = .ok (174, .agg #[.int .i64 p]) w := by kernel_rfl
@[go_sem] theorem na_AtNodeList (d : Nat) (w : World) (p : Int) (a : Option Addr) (n c : Nat) : (nilAhead (d + 3) 98 (.agg #[.int .i64 p, .slice a n c]) "At").run Tryz.prog w = .ok (some false) w := by kernel_rfl
@[go_sem] theorem me_AtNodeList (d : Nat) (w : World) (p : Int) (a : Option Addr) (n c : Nat) : (method (d + 3) 98 (.agg #[.int .i64 p, .slice a n c]) "At").run Tryz.prog w = .ok (174, .agg #[.int .i64 p]) w := by kernel_rfl
@[go_sem] theorem na_AtNodeObject (d : Nat) (w : World) (p : Int) (a : Option Addr) (n c : Nat) : (nilAhead (d + 3) 101 (.agg #[.int .i64 p, .slice a n c]) "At").run Tryz.prog w = .ok (some false) w := by kernel_rfl
@[go_sem] theorem me_AtNodeObject (d : Nat) (w : World) (p : Int) (a : Option Addr) (n c : Nat) : (method (d + 3) 101 (.agg #[.int .i64 p, .slice a n c]) "At").run Tryz.prog w = .ok (174, .agg #[.int .i64 p]) w := by kernel_rfl
set_option maxHeartbeats 1000000 in
theorem At_calls (p : Int) (w : World) : Calls Tryz.prog 174 #[.agg #[.int .i64 p]] w fun e w' => e = .returned (.int .i64 p) ∧ Below w.heap.size w w' := by
  go_enter Tryz.func174, Tryz.ntmps174
  (go_wp2_with fail; repeat (any_goals (go_quiet (fail); go_wp2_with fail)))
  go_ret
  exact ⟨rfl, (by repeat (first | assumption | exact Below.refl _ _ | apply Below.drew | apply below_drewN | apply balloc | (refine Below.setCell ?_ (by first | omega | (simp <;> omega)) _)))⟩
theorem eq_i (d : Nat) (a b : Int) (w : World) : (Op.equalIn (d + 1) 3 (.int .i64 a) (.int .i64 b)).run Tryz.prog w = .ok (a == b) w := run_equalIn_int _ _ _ _ .i64 _ _ (by kernel_rfl)
theorem und6 (w : World) : (underlying 44).run Tryz.prog w = .ok (.array 6 3) w := by kernel_rfl
theorem sz6 (w : World) : (Go.sizeOf 3).run Tryz.prog w = .ok 1 w := by kernel_rfl
theorem eq6 (n : Nat) (a b c d e f : Int) (w : World) : (Op.equalIn (n + 2) 44 (.agg #[.int .i64 a, .int .i64 b, .int .i64 c, .int .i64 d, .int .i64 e, .int .i64 f]) (.agg #[.int .i64 a, .int .i64 b, .int .i64 c, .int .i64 d, .int .i64 e, .int .i64 f])).run Tryz.prog w = .ok true w := by
  rw [Op.equalIn.eq_def]
  simp only [Sem.run_bind, und6, sz6, Result.andThen, part]
  simp [go_sem, eq_i, List.range', Result.andThen]
theorem neq6 (a b c d e f : Int) (w : World) : (binOp .neq 44 (.agg #[.int .i64 a, .int .i64 b, .int .i64 c, .int .i64 d, .int .i64 e, .int .i64 f]) (.agg #[.int .i64 a, .int .i64 b, .int .i64 c, .int .i64 d, .int .i64 e, .int .i64 f])).run Tryz.prog w = .ok (.bool false) w := by
  rw [run_neq_struct, show (10000 : Nat) = 9998 + 2 from rfl, eq6]
  rfl
theorem neq6F (F : Nat → Nat) (w : World) : (binOp .neq 44 (.agg (intsC F)) (.agg (intsC F))).run Tryz.prog w = .ok (.bool false) w := neq6 _ _ _ _ _ _ w
theorem own_top {w : World} {lo hi : Nat} {u : Value} {y : Nd} (h : OwnN w lo hi u y) : ∃ t a, u = .iface t a ∧ (∀ d w, (nilAhead (d + 3) t a "At").run Tryz.prog w = .ok (some false) w) ∧ (∀ d w, (method (d + 3) t a "At").run Tryz.prog w = .ok (174, .agg #[.int .i64 ((topP y : Nat) : Int)]) w) := by
  cases h with
  | null lo hi p => exact ⟨_, _, rfl, fun d w => na_AtNodeNull d w _, fun d w => me_AtNodeNull d w _⟩
  | flag lo hi p b => exact ⟨_, _, rfl, fun d w => na_AtNodeFlag d w _ _, fun d w => me_AtNodeFlag d w _ _⟩
  | num lo hi p t => exact ⟨_, _, rfl, fun d w => na_AtNodeNumber d w _ _, fun d w => me_AtNodeNumber d w _ _⟩
  | text lo hi p t => exact ⟨_, _, rfl, fun d w => na_AtNodeText d w _ _, fun d w => me_AtNodeText d w _ _⟩
  | lst lo hi p v cs ho =>
    obtain ⟨_, ⟨rfl, _⟩ | ⟨g, cap, cur, rfl, _⟩⟩ := ho
    · exact ⟨_, _, rfl, fun d w => na_AtNodeList d w _ _ _ _, fun d w => me_AtNodeList d w _ _ _ _⟩
    · exact ⟨_, _, rfl, fun d w => na_AtNodeList d w _ _ _ _, fun d w => me_AtNodeList d w _ _ _ _⟩
  | obj lo hi p v cs ho =>
    obtain ⟨_, ⟨rfl, _⟩ | ⟨g, cap, cur, rfl, _⟩⟩ := ho
    · exact ⟨_, _, rfl, fun d w => na_AtNodeObject d w _ _ _ _, fun d w => me_AtNodeObject d w _ _ _ _⟩
    · exact ⟨_, _, rfl, fun d w => na_AtNodeObject d w _ _ _ _, fun d w => me_AtNodeObject d w _ _ _ _⟩
theorem want_le : ∀ (cs : List CT) (p : Nat), ∀ T ∈ wantC p cs, T.fr ≤ T.to
  | [], _, T, h => by rw [wantC] at h; cases h
  | c :: r, p, T, h => by
    rw [wantC] at h
    rcases List.mem_cons.1 h with rfl | h
    · exact Nat.le_add_right _ _
    · exact want_le r _ T h
theorem sum_take : ∀ {ts : List Tk} {k : Nat} {T : Tk}, ts[k]? = some T → sumT (ts.take (k + 1)) = sumT (ts.take k) + (T.to - T.fr)
  | [], _, _, h => by simp at h
  | x :: r, 0, T, h => by
    rw [List.getElem?_cons_zero] at h
    cases h
    simp [sumT]
  | x :: r, k + 1, T, h => by
    rw [List.getElem?_cons_succ] at h
    have := sum_take h
    rw [List.take_succ_cons, List.take_succ_cons, sumT, sumT, this]
    omega
theorem sum_le : ∀ (ts : List Tk) (k : Nat), sumT (ts.take k) ≤ sumT ts
  | [], k => by rw [List.take_nil]; exact Nat.le_refl _
  | x :: r, 0 => Nat.zero_le _
  | x :: r, k + 1 => by
    rw [List.take_succ_cons, sumT, sumT]
    have := sum_le r k
    omega
set_option maxHeartbeats 4000000 in
set_option maxRecDepth 100000 in
theorem TreeBack_calls {A : Nat → Addr} {B : Nat} (s : ByteArray) (bv : Value) (bs : List ByteArray) (w : World) (hs : s.size ≤ 1048576) (hg : StrsAt w bv bs) (hkl : ∀ b ∈ bs, b.size ≤ 281474976710656) (hE : Env A B SVX w) :
    Calls Tryz.prog 6 #[.string s, bv] w fun e w' => e = .returned (.bool true) ∧ Below w.heap.size w w' := by
  have L := Lib.hid (fun w hE => lives_calls (A := A) (B := B) w hE)
  obtain ⟨n, hn⟩ : ∃ n, n = bs.length := ⟨_, rfl⟩
  have hnle := hg.le
  have hgo := Lib.hid hg
  obtain ⟨ga, gc, rfl⟩ := hg.form
  rw [← hn] at hg hnle hgo ⊢
  have hnle' : (n : Int) ≤ 9223372036854775807 := by omega
  replace hE := Lib.hid hE
  replace hn := Lib.hid hn
  replace hg := Lib.hid hg
  by_cases hbig : 2000 < n
  · have hbig' : (2000 : Int) < (n : Int) := by omega
    go_enter Tryz.func6, Tryz.ntmps6
    (go_wp2_with fail; repeat (any_goals (go_quiet (fail); go_wp2_with fail)))
    refine (L.out _ ((hE.out.next (by repeat (first | assumption | exact Below.refl _ _ | apply Below.drew | apply below_drewN | apply balloc | (refine Below.setCell ?_ (by first | omega | (simp <;> omega)) _)))).sub (by decide))).mono ?_
    rintro e w1 ⟨rfl, hb⟩
    have hb1 : Below w.heap.size w w1 := bcall (by repeat (first | assumption | exact Below.refl _ _ | apply Below.drew | apply below_drewN | apply balloc | (refine Below.setCell ?_ (by first | omega | (simp <;> omega)) _))) hb
    clear hb
    (go_wp2_with fail; repeat (any_goals (go_quiet (fail); go_wp2_with fail)))
    go_ret
    exact ⟨rfl, hb1⟩
  have hbig' : ¬ (2000 : Int) < (n : Int) := by omega
  have F1 := Lib.hid (fun w hE => Format_len (A := A) (B := B) s w hE (by omega) (fun x q h => by have := form_len h; omega))
  cases hP : parseS s with
  | out =>
    rw [hP] at F1
    replace hP := Lib.hid hP
    go_enter Tryz.func6, Tryz.ntmps6
    (go_wp2_with fail; repeat (any_goals (go_quiet (fail); go_wp2_with fail)))
    refine (L.out _ ((hE.out.next (by repeat (first | assumption | exact Below.refl _ _ | apply Below.drew | apply below_drewN | apply balloc | (refine Below.setCell ?_ (by first | omega | (simp <;> omega)) _)))).sub (by decide))).mono ?_
    rintro e w1 ⟨rfl, hb⟩
    have hb1 : Below w.heap.size w w1 := bcall (by repeat (first | assumption | exact Below.refl _ _ | apply Below.drew | apply below_drewN | apply balloc | (refine Below.setCell ?_ (by first | omega | (simp <;> omega)) _))) hb
    clear hb
    (go_wp2_with fail; repeat (any_goals (go_quiet (fail); go_wp2_with fail)))
    refine (F1.out _ ((hE.out.next hb1).sub (by decide))).mono ?_
    rintro e w2 ⟨hr, hb⟩
    exact hr.elim
  | err k pl =>
    rw [hP] at F1
    replace hP := Lib.hid hP
    go_enter Tryz.func6, Tryz.ntmps6
    (go_wp2_with fail; repeat (any_goals (go_quiet (fail); go_wp2_with fail)))
    refine (L.out _ ((hE.out.next (by repeat (first | assumption | exact Below.refl _ _ | apply Below.drew | apply below_drewN | apply balloc | (refine Below.setCell ?_ (by first | omega | (simp <;> omega)) _)))).sub (by decide))).mono ?_
    rintro e w1 ⟨rfl, hb⟩
    have hb1 : Below w.heap.size w w1 := bcall (by repeat (first | assumption | exact Below.refl _ _ | apply Below.drew | apply below_drewN | apply balloc | (refine Below.setCell ?_ (by first | omega | (simp <;> omega)) _))) hb
    clear hb
    (go_wp2_with fail; repeat (any_goals (go_quiet (fail); go_wp2_with fail)))
    refine (F1.out _ ((hE.out.next hb1).sub (by decide))).mono ?_
    rintro e w2 ⟨⟨g, hg, rfl, hat⟩, hb⟩
    have hb2 : Below w.heap.size w w2 := bcall hb1 hb
    clear hb
    replace hat := Lib.hid hat
    (go_wp2_with fail; repeat (any_goals (go_quiet (fail); go_wp2_with fail)))
    go_ret
    exact ⟨rfl, hb2⟩
  | ok x q =>
    have hlen := form_len hP
    have hsame := form_same hP
    obtain ⟨hscan, hform⟩ := form_scan hP
    have hsum := form_sum hP
    have hplx := parse_place hP
    have hf0 : formS s = ⟨(fmtN x).toArray⟩ := by rw [hform, flat_fmt]
    have htz : (formS s).size = (fmtN x).length := by rw [hf0, size_mk]
    obtain ⟨x', q', hP'⟩ : ∃ x' q', parseS (formS s) = .ok x' q' := by
      rw [hP] at hsame
      revert hsame
      cases parseS (formS s) with
      | ok a b => intro _; exact ⟨a, b, rfl⟩
      | err k pl => intro h; exact h.elim
      | out => intro h; exact h.elim
    have hst : x'.strip = x.strip := by
      rw [hP, hP'] at hsame
      exact hsame.1
    have hff : formS (formS s) = formS s := same_form (form_same hP)
    have hply := parse_place hP'
    have hpos : 0 < (formS s).size := Nat.lt_of_le_of_lt (Nat.zero_le _) (allPl_top hply)
    have hcnt : cntN x' = cntN x := funext fun i => by rw [← cnt_strip x', hst, cnt_strip]
    have hnm := name_strip hst
    have hpath := path_same hst bs
    have F2 := Lib.hid (fun w hE => Format_len (A := A) (B := B) (formS s) w hE (by omega) (fun y q h => by have := form_len h; omega))
    have C1 := Lib.hid (fun w hE => Count_calls (A := A) (B := B) s w hE (by omega))
    have C2 := Lib.hid (fun w hE => Count_calls (A := A) (B := B) (formS s) w hE (by omega))
    have N1 := Lib.hid (fun w hE => Name_calls (A := A) (B := B) s w hE (by omega))
    have N2 := Lib.hid (fun w hE => Name_calls (A := A) (B := B) (formS s) w hE (by omega))
    have SC := Lib.hid (fun w => rScan_calls (formS s) w (by omega))
    have D1 := Lib.hid (fun w (hg : StrsAt w (.slice ga n gc) bs) hE => Find_calls (A := A) (B := B) s _ bs w hE (by omega) hg hkl hP)
    have D2 := Lib.hid (fun w (hg : StrsAt w (.slice ga n gc) bs) hE => Find_calls (A := A) (B := B) (formS s) _ bs w hE (by omega) hg hkl hP')
    rw [hP] at F1 C1 N1
    rw [hP', hff] at F2
    rw [hP'] at C2 N2
    rw [hscan] at SC
    simp only [hcnt] at C2
    simp only [hnm] at N2
    have hpx := Lib.hid (fun y k h => path_place (y := y) (k := k) bs x hplx h)
    have hpy := Lib.hid (fun y k h => path_place (y := y) (k := k) bs x' hply h)
    have hpe := Lib.hid (fun k pl h => path_err (k := k) (pl := pl) bs x h)
    have hpe' := Lib.hid (fun k pl h => path_err (k := k) (pl := pl) bs x' h)
    obtain ⟨t, ht⟩ : ∃ t, t = formS s := ⟨_, rfl⟩
    obtain ⟨ts, hts⟩ : ∃ ts, ts = wantC 0 (toksN x) := ⟨_, rfl⟩
    obtain ⟨F, hF⟩ : ∃ F, F = cntN x := ⟨_, rfl⟩
    obtain ⟨nm, hnm2⟩ : ∃ nm, nm = nameS (nameN x) := ⟨_, rfl⟩
    have htlen : t.size ≤ 8388608 := by rw [ht]; omega
    rw [← ht] at F1 F2 C2 N2 SC D2 hpy hsum hpos
    rw [← hts] at SC hsum
    simp only [← hF] at C1 C2
    simp only [intsC] at C1 C2
    have ne6 := neq6 ((F 0 : Nat) : Int) ((F 1 : Nat) : Int) ((F 2 : Nat) : Int) ((F 3 : Nat) : Int) ((F 4 : Nat) : Int) ((F 5 : Nat) : Int)
    generalize ((F 0 : Nat) : Int) = c0, ((F 1 : Nat) : Int) = c1, ((F 2 : Nat) : Int) = c2, ((F 3 : Nat) : Int) = c3, ((F 4 : Nat) : Int) = c4, ((F 5 : Nat) : Int) = c5 at C1 C2 ne6
    simp only [← hnm2] at N1 N2
    replace ht := Lib.hid ht
    replace hts := Lib.hid hts
    replace hF := Lib.hid hF
    replace hnm2 := Lib.hid hnm2
    replace hsum := Lib.hid hsum
    clear hlen hsame hscan hform hplx hply hf0 htz hst hff hcnt hnm
    go_enter Tryz.func6, Tryz.ntmps6
    (go_wp2_with fail; repeat (any_goals (go_quiet (fail); go_wp2_with fail)))
    refine (L.out _ ((hE.out.next (by repeat (first | assumption | exact Below.refl _ _ | apply Below.drew | apply below_drewN | apply balloc | (refine Below.setCell ?_ (by first | omega | (simp <;> omega)) _)))).sub (by decide))).mono ?_
    rintro e w1 ⟨rfl, hb⟩
    have hb1 : Below w.heap.size w w1 := bcall (by repeat (first | assumption | exact Below.refl _ _ | apply Below.drew | apply below_drewN | apply balloc | (refine Below.setCell ?_ (by first | omega | (simp <;> omega)) _))) hb
    clear hb
    (go_wp2_with fail; repeat (any_goals (go_quiet (fail); go_wp2_with fail)))
    refine (F1.out _ ((hE.out.next hb1).sub (by decide))).mono ?_
    rintro e w2 ⟨rfl, hb⟩
    have hb2 : Below w.heap.size w w2 := bcall hb1 hb
    clear hb
    (go_wp2_with fail; repeat (any_goals (go_quiet (fail); go_wp2_with fail)))
    refine (F2.out _ ((hE.out.next hb2).sub (by decide))).mono ?_
    rintro e w3 ⟨rfl, hb⟩
    have hb3 : Below w.heap.size w w3 := bcall hb2 hb
    clear hb
    (go_wp2_with fail; repeat (any_goals (go_quiet (fail); go_wp2_with fail)))
    refine (C1.out _ ((hE.out.next hb3).sub (by decide))).mono ?_
    rintro e w4 ⟨rfl, hb⟩
    have hb4 : Below w.heap.size w w4 := bcall hb3 hb
    clear hb
    (go_wp2_with fail; repeat (any_goals (go_quiet (fail); go_wp2_with fail)))
    refine (C2.out _ ((hE.out.next (by repeat (first | assumption | exact Below.refl _ _ | apply Below.drew | apply below_drewN | apply balloc | (refine Below.setCell ?_ (by first | omega | (simp <;> omega)) _)))).sub (by decide))).mono ?_
    rintro e w5 ⟨rfl, hb⟩
    have hx9 := boxed hb
    have hb5 : Below w.heap.size w w5 := bcall (by repeat (first | assumption | exact Below.refl _ _ | apply Below.drew | apply below_drewN | apply balloc | (refine Below.setCell ?_ (by first | omega | (simp <;> omega)) _))) hb
    clear hb
    (go_wp2_with fail; repeat (any_goals (go_quiet (fail); go_wp2_with fail)))
    refine (N1.out _ ((hE.out.next (by repeat (first | assumption | exact Below.refl _ _ | apply Below.drew | apply below_drewN | apply balloc | (refine Below.setCell ?_ (by first | omega | (simp <;> omega)) _)))).sub (by decide))).mono ?_
    rintro e w6 ⟨rfl, hb⟩
    have hx11 := boxed hb
    replace hx9 := box_next hx9 (bcall (w := w5) (by repeat (first | assumption | exact Below.refl _ _ | apply Below.drew | apply below_drewN | apply balloc | (refine Below.setCell ?_ (by first | omega | (simp <;> omega)) _))) hb)
    have hb6 : Below w.heap.size w w6 := bcall (by repeat (first | assumption | exact Below.refl _ _ | apply Below.drew | apply below_drewN | apply balloc | (refine Below.setCell ?_ (by first | omega | (simp <;> omega)) _))) hb
    clear hb
    (go_wp2_with fail; repeat (any_goals (go_quiet (fail); go_wp2_with fail)))
    refine (N2.out _ ((hE.out.next hb6).sub (by decide))).mono ?_
    rintro e w7 ⟨rfl, hb⟩
    replace hx9 := box_next hx9 hb
    replace hx11 := box_next hx11 hb
    have hb7 : Below w.heap.size w w7 := bcall hb6 hb
    clear hb
    have x0 : w7.cell? ⟨w4.heap.size, 0, none⟩ = some (.int .i64 c0) := cellB hx9 0 rfl
    have x1 : w7.cell? ⟨w4.heap.size, 1, none⟩ = some (.int .i64 c1) := cellB hx9 1 rfl
    have x2 : w7.cell? ⟨w4.heap.size, 2, none⟩ = some (.int .i64 c2) := cellB hx9 2 rfl
    have x3 : w7.cell? ⟨w4.heap.size, 3, none⟩ = some (.int .i64 c3) := cellB hx9 3 rfl
    have x4 : w7.cell? ⟨w4.heap.size, 4, none⟩ = some (.int .i64 c4) := cellB hx9 4 rfl
    have x5 : w7.cell? ⟨w4.heap.size, 5, none⟩ = some (.int .i64 c5) := cellB hx9 5 rfl
    have y0 : w7.cell? ⟨w5.heap.size, 0, none⟩ = some (.int .i64 c0) := cellB hx11 0 rfl
    have y1 : w7.cell? ⟨w5.heap.size, 1, none⟩ = some (.int .i64 c1) := cellB hx11 1 rfl
    have y2 : w7.cell? ⟨w5.heap.size, 2, none⟩ = some (.int .i64 c2) := cellB hx11 2 rfl
    have y3 : w7.cell? ⟨w5.heap.size, 3, none⟩ = some (.int .i64 c3) := cellB hx11 3 rfl
    have y4 : w7.cell? ⟨w5.heap.size, 4, none⟩ = some (.int .i64 c4) := cellB hx11 4 rfl
    have y5 : w7.cell? ⟨w5.heap.size, 5, none⟩ = some (.int .i64 c5) := cellB hx11 5 rfl
    (go_wp2_with fail; repeat (any_goals (go_quiet (fail); go_wp2_with fail)))
    refine (SC.out _).mono ?_
    rintro e w8 ⟨⟨u, rfl, ho, hno⟩, hb⟩
    have hb8 : Below w.heap.size w w8 := bcall hb7 hb
    clear hb x0 x1 x2 x3 x4 x5 y0 y1 y2 y3 y4 y5 hx9 hx11
    replace ho : OwnT w8 w7.heap.size u ts := ho
    clear hno
    obtain ⟨m, hm⟩ : ∃ m, m = ts.length := ⟨_, rfl⟩
    have hwt : Hid (∀ T ∈ ts, T.fr ≤ T.to) := Lib.hid (by rw [hts.out]; exact want_le _ _)
    have hsz := hsum.out
    rcases ho.form with ⟨hnil, rfl⟩ | ⟨g, cap, rfl, hbg, hgl, hnl, hcm⟩
    · exact absurd hpos (by rw [← hsz, hnil]; exact Nat.lt_irrefl _)
    rw [← hm]
    have hm1 : (m : Int) ≤ 9223372036854775807 := by unfold maxLen at hcm; omega
    replace hm := Lib.hid hm
    replace ho := Lib.hid ho
    go_wp2_with fail
    rw [show decide ((2000 : Int) < (n : Int)) = false from decide_eq_false (by omega)]
    go_loopw [109, 20] (fun v109 v20 wr => ∃ k : Nat, k ≤ m ∧ v109 = .int .i64 (k : Int) ∧ v20 = .int .i64 (sumT (ts.take k) : Int) ∧ Below w8.heap.size w8 wr) (fun v _ _ => m - (intOf v).toNat)
    case atStart => exact ⟨0, Nat.zero_le _, rfl, rfl, Below.refl _ _⟩
    case round =>
      obtain ⟨k, hk, rfl, rfl, hB⟩ := hrel
      have hBw : Below w.heap.size w wr := bcall hb8 hB
      have hzr := hB.size
      by_cases hlt : k < m
      · obtain ⟨T, hT⟩ : ∃ T, ts[k]? = some T := ⟨ts[k]'(by rw [← hm.out]; exact hlt), List.getElem?_eq_getElem _⟩
        obtain ⟨y0, y1, y2, y3⟩ := (ho.out.next hB).at hT
        have hft := hwt.out T (List.mem_of_getElem? hT)
        have hs1 := sum_take hT
        have hs2 := sum_le ts (k + 1)
        rw [hs1, hsz] at hs2
        have hw1 : IntKind.i64.wrap ((T.to : Int) - (T.fr : Int)) = ((T.to - T.fr : Nat) : Int) := by rw [← Int.ofNat_sub hft]; exact wrap_id (by omega) (by omega)
        have hw2 : IntKind.i64.wrap ((sumT (ts.take k) : Int) + ((T.to - T.fr : Nat) : Int)) = ((sumT (ts.take k) + (T.to - T.fr) : Nat) : Int) := by rw [← Int.natCast_add]; exact wrap_id (by omega) (by omega)
        replace hT := Lib.hid hT
        replace hs1 := Lib.hid hs1
        go_wp2_with fail
        go_roundw
        case measure => simp [intOf]; omega
        case rel => exact ⟨k + 1, by omega, by go_num, by rw [hs1.out, Int.natCast_add], balloc hB⟩
      · have hkm : k = m := by omega
        have hst : sumT (ts.take k) = t.size := by rw [hkm, hm.out, List.take_length]; exact hsz
        rw [hst]
        clear ho hsz hst
        go_wp2_with fail
        refine (D1.out _ (hgo.out.next hBw) (hE.out.next hBw)).mono ?_
        rintro e w9 ⟨hr1, hb⟩
        have hb9 : Below w.heap.size w w9 := bcall hBw hb
        clear hb
        generalize pathN x bs = r1, pathN x' bs = r2 at *
        cases r1 with
        | out => exact hr1.elim
        | err k1 p1 =>
          cases r2 with
          | out => exact hpath.elim
          | ok y2 p2 => exact hpath.elim
          | err k2 p2 =>
            have hk : k2 = k1 := hpath
            subst hk
            have hr1 : e = .returned (.tuple #[.nilIface, .iface 237 (.pointer (some (A k2)))]) := hr1
            subst hr1
            have hk := hpe.out _ _ rfl
            have M := Lib.hid (fun w hE => Num_err (A := A) (B := B) k2 w (by omega) (by omega) hE)
            replace hk := Lib.hid hk
            (go_wp2_with fail; repeat (any_goals (go_quiet (fail); go_wp2_with fail)))
            refine (D2.out _ (hgo.out.next hb9) (hE.out.next hb9)).mono ?_
            rintro e w10 ⟨hr2, hb⟩
            have hb10 : Below w.heap.size w w10 := bcall hb9 hb
            clear hb
            have hr2 : e = .returned (.tuple #[.nilIface, .iface 237 (.pointer (some (A k2)))]) := hr2
            subst hr2
            (go_wp2_with fail; repeat (any_goals (go_quiet (fail); go_wp2_with fail)))
            refine (M.out _ ((hE.out.next hb10).sub (by decide))).mono ?_
            rintro e w11 ⟨rfl, hb⟩
            have hb11 : Below w.heap.size w w11 := bcall hb10 hb
            clear hb
            (go_wp2_with fail; repeat (any_goals (go_quiet (fail); go_wp2_with fail)))
            refine (M.out _ ((hE.out.next hb11).sub (by decide))).mono ?_
            rintro e w12 ⟨rfl, hb⟩
            have hb12 : Below w.heap.size w w12 := bcall hb11 hb
            clear hb
            (go_wp2_with fail; repeat (any_goals (go_quiet (fail); go_wp2_with fail)))
            go_ret
            exact ⟨rfl, hb12⟩
        | ok y1 p1 =>
          cases r2 with
          | out => exact hpath.elim
          | err k2 p2 => exact hpath.elim
          | ok y2 p2 =>
            obtain ⟨u1, he, hu1⟩ := hr1
            obtain ⟨t1, a1, rfl, na1, me1⟩ := own_top hu1
            subst he
            have hl1 : ((topP y1 : Nat) : Int) < (s.size : Int) := Int.ofNat_lt.2 (hpx.out _ _ rfl)
            have hl2 : ((topP y2 : Nat) : Int) < (t.size : Int) := Int.ofNat_lt.2 (hpy.out _ _ rfl)
            have T1 := Lib.hid (fun w => At_calls ((topP y1 : Nat) : Int) w)
            have T2 := Lib.hid (fun w => At_calls ((topP y2 : Nat) : Int) w)
            replace hu1 := Lib.hid hu1
            (go_wp2_with fail; repeat (any_goals (go_quiet (fail); go_wp2_with fail)))
            refine (D2.out _ (hgo.out.next hb9) (hE.out.next hb9)).mono ?_
            rintro e w10 ⟨hr2, hb⟩
            have hb10 : Below w.heap.size w w10 := bcall hb9 hb
            clear hb
            obtain ⟨u2, he, hu2⟩ := hr2
            obtain ⟨t2, a2, rfl, na2, me2⟩ := own_top hu2
            subst he
            replace hu2 := Lib.hid hu2
            (go_wp2_with fail; repeat (any_goals (go_quiet (fail); go_wp2_with fail)))
            refine (T2.out _).mono ?_
            rintro e w11 ⟨rfl, hb⟩
            have hb11 : Below w.heap.size w w11 := bcall hb10 hb
            clear hb
            (go_wp2_with fail; repeat (any_goals (go_quiet (fail); go_wp2_with fail)))
            refine (T1.out _).mono ?_
            rintro e w12 ⟨rfl, hb⟩
            have hb12 : Below w.heap.size w w12 := bcall hb11 hb
            clear hb
            (go_wp2_with fail; repeat (any_goals (go_quiet (fail); go_wp2_with fail)))
            go_ret
            exact ⟨rfl, hb12⟩

end Go.Proofs.YtibopkodoidjoaaGreatDoor

/- A list of texts that came in, with the bound on its bulk. -/
namespace Go.Proofs.YtibopkodoidjoaaGreatDoor
open Go Go.RowKit Go.WideShapes Go.ChangeShapes Go.ChangeAt

theorem bulk_strs {H : Type} : ∀ (ss : List ByteArray), ∀ s ∈ ss, s.size ≤ Rows.uptoBulkAll (strs (H := H) ss)
  | [], s, h => by cases h
  | b :: r, s, h => by
    have e : Rows.uptoBulkAll (strs (H := H) (b :: r)) = b.data.toList.length + 1 + Rows.uptoBulkAll (strs (H := H) r) := by
      show Rows.uptoBulkAll (DataW.lit (.string b.data.toList) :: strs (H := H) r) = _
      rw [Rows.uptoBulkAll, Rows.uptoBulk]
    have e2 : b.data.toList.length = b.size := by rw [Array.length_toList]; rfl
    rcases List.mem_cons.1 h with rfl | h
    · omega
    · have := bulk_strs (H := H) r s h
      omega
set_option maxRecDepth 100000 in
theorem strs_up {H : Type} {enc : TypeId × Value → H} {W : World} {base : Nat} {v : Value} {d : DataW H} {ps : List MemPlace} (hval : Value.okWide Tryz.prog W .any base 30 v) (h : DataW.Trod enc Tryz.prog W 0 (fun _ => true) true 30 v d ps) : ∃ bs, StrsAt W v bs ∧ ∀ b ∈ bs, b.size ≤ Rows.uptoBulk d := by
  obtain ⟨fuel, hf⟩ := h
  obtain ⟨a0, len, cap, rfl⟩ := okWide_slice Tryz.underlying30 hval
  rcases open_strings Tryz.underlying30 Tryz.underlying9 cells_str hf with ⟨hcs, hx⟩ | ⟨a, len', cap', ss, hcs, _, hl, hm, hz, hx, hcell, hwz⟩
  · simp [Value.cells] at hcs
    obtain ⟨rfl, rfl, rfl⟩ := hcs
    exact ⟨[], Or.inl ⟨rfl, _, _, rfl⟩, fun b h => by cases h⟩
  · simp [Value.cells] at hcs
    obtain ⟨rfl, rfl, rfl⟩ := hcs
    simp only [if_true] at hz
    by_cases h0 : len = 0
    · subst h0
      exact ⟨[], Or.inl ⟨rfl, _, _, rfl⟩, fun b h => by cases h⟩
    · obtain ⟨b, off, spot⟩ := a
      have hspot : spot = none := by simpa [Addr.add] using World.cell?_spot (hcell 0 (by omega))
      subst hspot
      have hlt := World.block_lt_of_cell? W _ (hcell 0 (by omega))
      have hlen : (ss.take len).length = len := by rw [List.length_take]; omega
      refine ⟨ss.take len, Or.inr ⟨b, off, cap, by rw [hlen], by rw [hlen]; exact hl, hm, by simpa [Addr.add] using hlt, fun i z hi => ?_, fun s hs => hwz s (List.mem_of_mem_take hs)⟩, fun s hs => ?_⟩
      rotate_left
      · obtain rfl : d = .slice (strs (ss.take len)) (strs (ss.drop len)) := congrArg Prod.fst hx
        have := bulk_strs (H := H) (ss.take len) s hs
        rw [Rows.uptoBulk]
        omega
      have hil : i < len := by
        rcases Nat.lt_or_ge i (ss.take len).length with h | h
        · omega
        · rw [List.getElem?_eq_none h] at hi; cases hi
      rw [List.getElem?_take_of_lt hil] at hi
      have := hcell i (by omega)
      have e : (⟨b, off, none⟩ : Addr).add i = ⟨b, off + i, none⟩ := by simp only [Addr.add]; split <;> simp_all
      rw [e] at this
      rw [this]
      simp [List.getD, hi]

end Go.Proofs.YtibopkodoidjoaaGreatDoor
