/- Package values, on: texts. -/
import Derived.Test.YtfdhklpabhhjjaaGreatDoorValues2
import Derived.Test.YtfdhklpabhhjjaaGreatDoorValFacts
import Derived.Shelf.Strings.SlTrimAscii
import Derived.Lib.LaidTab
import Derived.Lib.AppendIntMem
import Derived.WalkSmall
import Derived.Lib.AtoiErrMem
namespace Go.Proofs.YtfdhklpabhhjjaaGreatDoor
open Go Go.RowKit

/-- What else the numbers' texts lean on: a table of the library, and its own errors. -/
structure EnvN (A : Nat → Addr) (B : Nat) (w : World) : Prop where
  env : Env A B SV w
  tab : Lib.TabIs Tryz.prog w "internal/strconv.uint64pow10" .u64 Lib.pow10Tab
  tabB : 25 < B
theorem EnvN.next {A : Nat → Addr} {B : Nat} {w w' : World} (h : EnvN A B w) (hb : Below w.heap.size w w') : EnvN A B w' :=
  ⟨h.env.next hb, var?_below hb (show Tryz.prog.globalNamed "internal/strconv.uint64pow10" = some 25 by kernel_rfl) (Nat.lt_of_lt_of_le h.tabB h.env.hB) h.tab, h.tabB⟩

theorem nil_of_toList {t : ByteArray} (h : t.toList = []) : t = ⟨#[]⟩ := by
  rw [Lib.toList_data] at h
  obtain ⟨⟨l⟩⟩ := t
  simp only at h
  rw [h]
theorem good_cases {k n : Int} {t : ByteArray} (h : vCheck ⟨k, n, t⟩ = 0) :
    (k = 0 ∧ n = 0 ∧ t = ⟨#[]⟩) ∨ (k = 1 ∧ n = 0 ∧ t = ⟨#[]⟩) ∨ (k = 1 ∧ n = 1 ∧ t = ⟨#[]⟩) ∨ (k = 2 ∧ t = ⟨#[]⟩) ∨ (k = 3 ∧ n = 0 ∧ txE t = 0) := by
  unfold vCheck at h
  simp only at h
  split at h
  · split at h
    · rename_i h1 h2; exact Or.inl ⟨h1, h2.1, nil_of_toList h2.2⟩
    · cases h
  · split at h
    · split at h
      · rename_i h1 h2
        rcases h2.1 with h3 | h3
        · exact Or.inr (Or.inl ⟨h1, h3, nil_of_toList h2.2⟩)
        · exact Or.inr (Or.inr (Or.inl ⟨h1, h3, nil_of_toList h2.2⟩))
      · cases h
    · split at h
      · split at h
        · rename_i h1 h2; exact Or.inr (Or.inr (Or.inr (Or.inl ⟨h1, nil_of_toList h2⟩)))
        · cases h
      · split at h
        · split at h
          · rename_i h1 h2; exact Or.inr (Or.inr (Or.inr (Or.inr ⟨h1, h2, h⟩)))
          · cases h
        · cases h
theorem good_size {k n : Int} {t : ByteArray} (h : vCheck ⟨k, n, t⟩ = 0) : t.size ≤ 1048576 := by
  rcases good_cases h with ⟨rfl, rfl, rfl⟩ | ⟨rfl, rfl, rfl⟩ | ⟨rfl, rfl, rfl⟩ | ⟨rfl, rfl⟩ | ⟨rfl, rfl, h2⟩
  all_goals try decide
  unfold txE at h2
  split at h2
  · cases h2
  · split at h2
    · cases h2
    · omega
/-- A plain value's text. -/
def vText (p : Pl) : ByteArray :=
  if p.kind = 1 then ⟨(Lib.formatBool (p.num == 1)).toArray⟩
  else if p.kind = 2 then ⟨(Lib.itoa p.num).toArray⟩
  else if p.kind = 3 then ⟨#[39]⟩ ++ p.text
  else ⟨#[110, 117, 108, 108]⟩

set_option maxRecDepth 100000 in
theorem writtenNull (w : World) : Calls Tryz.prog 49 #[.iface 151 (.agg #[])] w fun e w' => e = .returned (.string ⟨#[110, 117, 108, 108]⟩) ∧ Below w.heap.size w w' := by
  go_enter Tryz.func49, Tryz.ntmps49
  (go_wp2_with fail; repeat (any_goals (go_quiet (fail); go_wp2_with fail)))
  go_ret
  exact ⟨rfl, (by repeat (first | assumption | exact Below.refl _ _ | apply Below.drew | apply below_drewN | apply balloc | (refine Below.setCell ?_ (by first | omega | (simp <;> omega)) _)))⟩
set_option maxRecDepth 100000 in
theorem writtenFlag (b : Bool) (w : World) : Calls Tryz.prog 49 #[.iface 152 (.bool b)] w fun e w' => e = .returned (.string ⟨(Lib.formatBool b).toArray⟩) ∧ Below w.heap.size w w' := by
  have C := Lib.hid (Tryz.strconv_FormatBool b)
  obtain ⟨l, hl⟩ : ∃ l, Lib.formatBool b = l := ⟨_, rfl⟩
  rw [hl] at C ⊢
  clear hl
  go_enter Tryz.func49, Tryz.ntmps49
  (go_wp2_with fail; repeat (any_goals (go_quiet (fail); go_wp2_with fail)))
  refine (C.out _).mono ?_
  rintro e w1 ⟨rfl, rfl⟩
  (go_wp2_with fail; repeat (any_goals (go_quiet (fail); go_wp2_with fail)))
  go_ret
  exact ⟨rfl, (by repeat (first | assumption | exact Below.refl _ _ | apply Below.drew | apply below_drewN | apply balloc | (refine Below.setCell ?_ (by first | omega | (simp <;> omega)) _)))⟩
set_option maxRecDepth 100000 in
theorem writtenText (t : ByteArray) (w : World) (hs : t.size ≤ 140737488351232) : Calls Tryz.prog 49 #[.iface 158 (.string t)] w fun e w' => e = .returned (.string (⟨#[39]⟩ ++ t)) ∧ Below w.heap.size w w' := by
  go_enter Tryz.func49, Tryz.ntmps49
  (go_wp2_with fail; repeat (any_goals (go_quiet (fail); go_wp2_with fail)))
  go_ret
  exact ⟨rfl, (by repeat (first | assumption | exact Below.refl _ _ | apply Below.drew | apply below_drewN | apply balloc | (refine Below.setCell ?_ (by first | omega | (simp <;> omega)) _)))⟩
set_option maxRecDepth 100000 in
theorem writtenNumber {A : Nat → Addr} {B : Nat} (n : Int) (w : World) (h0 : -9223372036854775808 ≤ n) (h1 : n ≤ 9223372036854775807) (hE : EnvN A B w) : Calls Tryz.prog 49 #[.iface 157 (.int .i64 n)] w fun e w' => e = .returned (.string ⟨(Lib.itoa n).toArray⟩) ∧ Below w.heap.size w w' := by
  have C := Lib.hid (fun w (h : Lib.TabIs Tryz.prog w "internal/strconv.uint64pow10" .u64 Lib.pow10Tab) => (Tryz.strconv_FormatInt_10 n h0 h1 w h).mono (R' := fun e w' => e = .returned (.string ⟨(Lib.itoa n).toArray⟩) ∧ Below w.heap.size w w') fun e w' ⟨he, k, os, hw⟩ => ⟨he, hw ▸ Lib.below_grow w.heap.size w (Nat.le_refl _) k os⟩)
  clear h0 h1
  obtain ⟨l, hl⟩ : ∃ l, Lib.itoa n = l := ⟨_, rfl⟩
  rw [hl] at C ⊢
  clear hl
  go_enter Tryz.func49, Tryz.ntmps49
  (go_wp2_with fail; repeat (any_goals (go_quiet (fail); go_wp2_with fail)))
  refine (C.out _ hE.tab).mono ?_
  rintro e w1 ⟨rfl, hb⟩
  (go_wp2_with fail; repeat (any_goals (go_quiet (fail); go_wp2_with fail)))
  go_ret
  exact ⟨rfl, (by repeat (first | assumption | exact Below.refl _ _ | apply Below.drew | apply below_drewN | apply balloc | (refine Below.setCell ?_ (by first | omega | (simp <;> omega)) _)))⟩

theorem written_calls {A : Nat → Addr} {B : Nat} (p : Pl) (w : World) (hs : p.text.size ≤ 140737488351232) (h0 : -9223372036854775808 ≤ p.num) (h1 : p.num ≤ 9223372036854775807) (hE : EnvN A B w) :
    Calls Tryz.prog 49 #[valV p] w fun e w' => e = .returned (.string (vText p)) ∧ Below w.heap.size w w' := by
  unfold valV vText
  split
  · exact writtenFlag _ w
  · split
    · exact writtenNumber _ w h0 h1 hE
    · split
      · exact writtenText _ w hs
      · exact writtenNull w

set_option maxHeartbeats 1000000 in
theorem Text_ok {A : Nat → Addr} {B : Nat} (k n : Int) (t : ByteArray) (w : World) (hs : t.size ≤ 140737488351232) (h0 : -9223372036854775808 ≤ n) (h1 : n ≤ 9223372036854775807) (hE : EnvN A B w) (h : vCheck ⟨k, n, t⟩ = 0) :
    Calls Tryz.prog 24 #[.agg #[.int .i64 k, .int .i64 n, .string t]] w fun e w' => e = .returned (.tuple #[.string (vText ⟨k, n, t⟩), .nilIface]) ∧ Below w.heap.size w w' := by
  have C := Lib.hid (fun w hE => Of_ok (A := A) (B := B) k n t w hs hE h)
  have C2 := Lib.hid (fun w hE => written_calls (A := A) (B := B) ⟨k, n, t⟩ w hs h0 h1 hE)
  clear h h0 h1
  generalize vText ⟨k, n, t⟩ = r at *
  generalize valV ⟨k, n, t⟩ = v at *
  go_enter Tryz.func24, Tryz.ntmps24
  (go_wp2_with fail; repeat (any_goals (go_quiet (fail); go_wp2_with fail)))
  refine (C.out _ (hE.env.next (by repeat (first | assumption | exact Below.refl _ _ | apply Below.drew | apply below_drewN | apply balloc | (refine Below.setCell ?_ (by first | omega | (simp <;> omega)) _))))).mono ?_
  rintro e w1 ⟨rfl, hb⟩
  have hb1 : Below w.heap.size w w1 := bcall (by repeat (first | assumption | exact Below.refl _ _ | apply Below.drew | apply below_drewN | apply balloc | (refine Below.setCell ?_ (by first | omega | (simp <;> omega)) _))) hb
  clear hb
  (go_wp2_with fail; repeat (any_goals (go_quiet (fail); go_wp2_with fail)))
  refine (C2.out _ (hE.next (by repeat (first | assumption | exact Below.refl _ _ | apply Below.drew | apply below_drewN | apply balloc | (refine Below.setCell ?_ (by first | omega | (simp <;> omega)) _))))).mono ?_
  rintro e w2 ⟨rfl, hb⟩
  have hb2 : Below w.heap.size w w2 := bcall hb1 hb
  clear hb
  (go_wp2_with fail; repeat (any_goals (go_quiet (fail); go_wp2_with fail)))
  go_ret2
  exact ⟨rfl, (by repeat (first | assumption | exact Below.refl _ _ | apply Below.drew | apply below_drewN | apply balloc | (refine Below.setCell ?_ (by first | omega | (simp <;> omega)) _)))⟩
set_option maxHeartbeats 1000000 in
theorem Text_bad {A : Nat → Addr} {B : Nat} (k n : Int) (t : ByteArray) (w : World) (hs : t.size ≤ 140737488351232) (hE : Env A B SV w) (h : 0 < vCheck ⟨k, n, t⟩) :
    Calls Tryz.prog 24 #[.agg #[.int .i64 k, .int .i64 n, .string t]] w fun e w' => e = .returned (.tuple #[.string ⟨#[]⟩, .iface 264 (.pointer (some (A (vCheck ⟨k, n, t⟩))))]) ∧ Below w.heap.size w w' := by
  have C := Lib.hid (fun w hE => Of_bad (A := A) (B := B) k n t w hs hE h)
  clear h
  generalize A (vCheck ⟨k, n, t⟩) = r at *
  go_enter Tryz.func24, Tryz.ntmps24
  (go_wp2_with fail; repeat (any_goals (go_quiet (fail); go_wp2_with fail)))
  refine (C.out _ (hE.next (by repeat (first | assumption | exact Below.refl _ _ | apply Below.drew | apply below_drewN | apply balloc | (refine Below.setCell ?_ (by first | omega | (simp <;> omega)) _))))).mono ?_
  rintro e w1 ⟨rfl, hb⟩
  have hb1 : Below w.heap.size w w1 := bcall (by repeat (first | assumption | exact Below.refl _ _ | apply Below.drew | apply below_drewN | apply balloc | (refine Below.setCell ?_ (by first | omega | (simp <;> omega)) _))) hb
  clear hb
  (go_wp2_with fail; repeat (any_goals (go_quiet (fail); go_wp2_with fail)))
  go_ret2
  exact ⟨rfl, (by repeat (first | assumption | exact Below.refl _ _ | apply Below.drew | apply below_drewN | apply balloc | (refine Below.setCell ?_ (by first | omega | (simp <;> omega)) _)))⟩

theorem trimPrefix_le (l p : List UInt8) : (Lib.trimPrefix l p).length ≤ l.length := by
  unfold Lib.trimPrefix
  split
  · rw [List.length_drop]; omega
  · exact Nat.le_refl _
/-- Are these the digits of a number, without needless ones? -/
def digs : List UInt8 := [48, 49, 50, 51, 52, 53, 54, 55, 56, 57]
def wholeD (d l z : List UInt8) : Bool := match d, z with
  | x :: _, [] => !(x == 48) || l == [48]
  | _, _ => false
def wholeB (s : ByteArray) : Bool := wholeD (Lib.trimPrefix s.data.toList [45]) s.data.toList (Lib.trimS (Lib.trimPrefix s.data.toList [45]) digs)
theorem Trim_calls (s : ByteArray) (w : World) (hs : s.size ≤ 9223372036854775807) :
    Calls Tryz.prog 96 #[.string s, .string ⟨#[48, 49, 50, 51, 52, 53, 54, 55, 56, 57]⟩] w fun e w' => e = .returned (.string ⟨(Lib.trimS s.data.toList digs).toArray⟩) ∧ Below w.heap.size w w' :=
  Any.strings_Trim_laid Tryz.lays160 (by kernel_rfl) s ⟨#[48, 49, 50, 51, 52, 53, 54, 55, 56, 57]⟩ w hs (by decide) (fun j b h => (show ∀ b ∈ digs, b.toNat < 128 by decide) b (List.mem_of_getElem? h))
set_option maxHeartbeats 1000000 in
theorem whole_calls (s : ByteArray) (w : World) (hs : s.size ≤ 140737488351232) :
    Calls Tryz.prog 73 #[.string s] w fun e w' => e = .returned (.bool (wholeB s)) ∧ Below w.heap.size w w' := by
  have C := Lib.hid (Tryz.strings_TrimPrefix s ⟨#[45]⟩)
  have hsz : (Lib.trimPrefix s.data.toList [45]).length ≤ s.size := by
    have h1 := Lib.size_eq s; have h2 := trimPrefix_le s.data.toList [45]; omega
  unfold wholeB
  generalize Lib.trimPrefix s.data.toList [45] = d at *
  cases d with
  | nil =>
    go_enter Tryz.func73, Tryz.ntmps73
    (go_wp2_with fail; repeat (any_goals (go_quiet (fail); go_wp2_with fail)))
    refine (C.out _).mono ?_
    rintro e w1 ⟨rfl, rfl⟩
    (go_wp2_with fail; repeat (any_goals (go_quiet (fail); go_wp2_with fail)))
    go_ret
    exact ⟨rfl, (by repeat (first | assumption | exact Below.refl _ _ | apply Below.drew | apply below_drewN | apply balloc | (refine Below.setCell ?_ (by first | omega | (simp <;> omega)) _)))⟩
  | cons x r =>
    have C2 := Lib.hid (fun w => Trim_calls ⟨(x :: r).toArray⟩ w (by have : (⟨(x :: r).toArray⟩ : ByteArray).size = (x :: r).length := rfl; omega))
    simp only at C2
    generalize Lib.trimS (x :: r) digs = z at *
    cases z with
    | nil =>
      go_enter Tryz.func73, Tryz.ntmps73
      (go_wp2_with fail; repeat (any_goals (go_quiet (fail); go_wp2_with fail)))
      refine (C.out _).mono ?_
      rintro e w1 ⟨rfl, rfl⟩
      (go_wp2_with fail; repeat (any_goals (go_quiet (fail); go_wp2_with fail)))
      refine (C2.out _).mono ?_
      rintro e w1 ⟨rfl, hb⟩
      (go_wp2_with fail; repeat (any_goals (go_quiet (fail); go_wp2_with fail)))
      all_goals
        go_ret
        have hx : ((⟨(x :: r).toArray⟩ : ByteArray)[0]'(by show 0 < (x :: r).length; simp)).toNat = x.toNat := rfl
        have hy : (x.toNat : Int) = 48 ↔ x = 48 := ⟨fun h => UInt8.toNat_inj.1 (show x.toNat = 48 by omega), fun h => by rw [h]; rfl⟩
        have hl := Lib.toList_data s
        exact ⟨by simp_all [wholeD], (by repeat (first | assumption | exact Below.refl _ _ | apply Below.drew | apply below_drewN | apply balloc | (refine Below.setCell ?_ (by first | omega | (simp <;> omega)) _)))⟩
    | cons y z =>
      go_enter Tryz.func73, Tryz.ntmps73
      (go_wp2_with fail; repeat (any_goals (go_quiet (fail); go_wp2_with fail)))
      refine (C.out _).mono ?_
      rintro e w1 ⟨rfl, rfl⟩
      (go_wp2_with fail; repeat (any_goals (go_quiet (fail); go_wp2_with fail)))
      refine (C2.out _).mono ?_
      rintro e w1 ⟨rfl, hb⟩
      (go_wp2_with fail; repeat (any_goals (go_quiet (fail); go_wp2_with fail)))
      go_ret
      exact ⟨rfl, (by repeat (first | assumption | exact Below.refl _ _ | apply Below.drew | apply below_drewN | apply balloc | (refine Below.setCell ?_ (by first | omega | (simp <;> omega)) _)))⟩

/-- strconv.ParseInt at base 10: a value, or an error that is not nil. -/
theorem ParseInt_ok {A : Nat → Addr} {B : Nat} (s : ByteArray) (w : World) (hs : s.size ≤ 140737488351232) (_hE : Env A B SV w) (v : Int) (h : Lib.parseIntB 64 s.data.toList = .ok v) :
    Calls Tryz.prog 74 #[.string s, .int .i64 10, .int .i64 64] w fun e w' => e = .returned (.tuple #[.int .i64 v, .nilIface]) ∧ Below w.heap.size w w' :=
  (Tryz.strconv_ParseInt_10_at64_ok s (by omega) v h w).mono fun e w' ⟨he, hw⟩ => ⟨he, by
    rcases hw with hw | ⟨t, hw⟩
    · subst hw; exact Below.refl _ _
    · subst hw; exact Lib.bytesWorld_below _ _ _⟩
theorem ParseInt_bad {A : Nat → Addr} {B : Nat} (s : ByteArray) (w : World) (hs : s.size ≤ 140737488351232) (hE : Env A B SV w) (h : ∀ v, Lib.parseIntB 64 s.data.toList ≠ .ok v) :
    Calls Tryz.prog 74 #[.string s, .int .i64 10, .int .i64 64] w fun e w' => (∃ n a, e = .returned (.tuple #[.int .i64 n, .iface 219 (.pointer (some a))])) ∧ Below w.heap.size w w' := by
  cases hp : Lib.parseIntB 64 s.data.toList
  case ok v => exact absurd hp (h v)
  all_goals first
    | exact (Tryz.strconv_ParseInt_10_at64_range s (by omega) hp _ w hE.e20 (Or.inr ⟨_, _, rfl⟩)).mono fun e w' ⟨N, he, _, _, hb⟩ => ⟨⟨_, _, he⟩, hb⟩
    | exact (Any.strconv_ParseInt_10_at64_syntax Tryz.laysC174 s (by omega) hp _ w hE.e21 (Or.inr ⟨_, _, rfl⟩)).mono fun e w' ⟨N, he, _, _, hb⟩ => ⟨⟨_, _, he⟩, hb⟩
/-- What Parse answers: the plain value, and the error's number. -/
def vParse (s : ByteArray) : Pl × Nat :=
  if s.toList = [110, 117, 108, 108] then (⟨0, 0, ⟨#[]⟩⟩, 0)
  else if s.toList = [116, 114, 117, 101] then (⟨1, 1, ⟨#[]⟩⟩, 0)
  else if s.toList = [102, 97, 108, 115, 101] then (⟨1, 0, ⟨#[]⟩⟩, 0)
  else if Lib.hasPrefix s.data.toList [39] then (⟨3, 0, ⟨(Lib.trimPrefix s.data.toList [39]).toArray⟩⟩, txE ⟨(Lib.trimPrefix s.data.toList [39]).toArray⟩)
  else if wholeB s then (match Lib.parseIntB 64 s.data.toList with | .ok v => (⟨2, v, ⟨#[]⟩⟩, 0) | _ => (⟨0, 0, ⟨#[]⟩⟩, 4))
  else (⟨0, 0, ⟨#[]⟩⟩, 5)
def ansV (A : Nat → Addr) (r : Pl × Nat) : Value := if r.2 = 0 then .tuple #[valV r.1, .nilIface] else .tuple #[.nilIface, errV A r.2]
set_option maxHeartbeats 1000000 in
set_option maxRecDepth 100000 in
theorem Parse_calls {A : Nat → Addr} {B : Nat} (s : ByteArray) (w : World) (hs : s.size ≤ 140737488351232) (hE : Env A B SV w) :
    Calls Tryz.prog 44 #[.string s] w fun e w' => e = .returned (ansV A (vParse s)) ∧ Below w.heap.size w w' := by
  have C := Lib.hid (Tryz.strings_CutPrefix s ⟨#[39]⟩)
  have D := Lib.hid (fun w => whole_calls s w hs)
  by_cases h1 : s.toList = [110, 117, 108, 108]
  · have b1 : (s.toList == [110, 117, 108, 108]) = true := beq_iff_eq.2 h1
    have hp : vParse s = (⟨0, 0, ⟨#[]⟩⟩, 0) := by unfold vParse; rw [if_pos h1]
    rw [hp]
    clear h1 hp
    go_enter Tryz.func44, Tryz.ntmps44
    (go_wp2_with fail; repeat (any_goals (go_quiet (fail); go_wp2_with fail)))
    go_ret2
    exact ⟨rfl, (by repeat (first | assumption | exact Below.refl _ _ | apply Below.drew | apply below_drewN | apply balloc | (refine Below.setCell ?_ (by first | omega | (simp <;> omega)) _)))⟩
  have b1 : (s.toList == [110, 117, 108, 108]) = false := beq_eq_false_iff_ne.2 h1
  by_cases h2 : s.toList = [116, 114, 117, 101]
  · have b2 : (s.toList == [116, 114, 117, 101]) = true := beq_iff_eq.2 h2
    have hp : vParse s = (⟨1, 1, ⟨#[]⟩⟩, 0) := by unfold vParse; rw [if_neg h1, if_pos h2]
    rw [hp]
    clear h1 h2 hp
    go_enter Tryz.func44, Tryz.ntmps44
    (go_wp2_with fail; repeat (any_goals (go_quiet (fail); go_wp2_with fail)))
    go_ret2
    exact ⟨rfl, (by repeat (first | assumption | exact Below.refl _ _ | apply Below.drew | apply below_drewN | apply balloc | (refine Below.setCell ?_ (by first | omega | (simp <;> omega)) _)))⟩
  have b2 : (s.toList == [116, 114, 117, 101]) = false := beq_eq_false_iff_ne.2 h2
  by_cases h3 : s.toList = [102, 97, 108, 115, 101]
  · have b3 : (s.toList == [102, 97, 108, 115, 101]) = true := beq_iff_eq.2 h3
    have hp : vParse s = (⟨1, 0, ⟨#[]⟩⟩, 0) := by unfold vParse; rw [if_neg h1, if_neg h2, if_pos h3]
    rw [hp]
    clear h1 h2 h3 hp
    go_enter Tryz.func44, Tryz.ntmps44
    (go_wp2_with fail; repeat (any_goals (go_quiet (fail); go_wp2_with fail)))
    go_ret2
    exact ⟨rfl, (by repeat (first | assumption | exact Below.refl _ _ | apply Below.drew | apply below_drewN | apply balloc | (refine Below.setCell ?_ (by first | omega | (simp <;> omega)) _)))⟩
  have b3 : (s.toList == [102, 97, 108, 115, 101]) = false := beq_eq_false_iff_ne.2 h3
  have hp : vParse s = if Lib.hasPrefix s.data.toList [39] then (⟨3, 0, ⟨(Lib.trimPrefix s.data.toList [39]).toArray⟩⟩, txE ⟨(Lib.trimPrefix s.data.toList [39]).toArray⟩)
      else if wholeB s then (match Lib.parseIntB 64 s.data.toList with | .ok v => (⟨2, v, ⟨#[]⟩⟩, 0) | _ => (⟨0, 0, ⟨#[]⟩⟩, 4))
      else (⟨0, 0, ⟨#[]⟩⟩, 5) := by unfold vParse; rw [if_neg h1, if_neg h2, if_neg h3]
  rw [hp]
  clear h1 h2 h3 hp
  cases h4 : Lib.hasPrefix s.data.toList [39] with
  | true =>
    rw [if_pos rfl]
    rw [h4] at C
    have hsz : (Lib.trimPrefix s.data.toList [39]).length ≤ s.size := by
      have h1 := Lib.size_eq s; have h2 := trimPrefix_le s.data.toList [39]; omega
    have E : ∀ w, Env A B SV w → Calls Tryz.prog 20 #[.agg #[.int .i64 3, .int .i64 0, .string ⟨(Lib.trimPrefix s.data.toList [39]).toArray⟩]] w fun e w' => e = .returned (ansV A (⟨3, 0, ⟨(Lib.trimPrefix s.data.toList [39]).toArray⟩⟩, txE ⟨(Lib.trimPrefix s.data.toList [39]).toArray⟩)) ∧ Below w.heap.size w w' := by
      generalize (Lib.trimPrefix s.data.toList [39]) = t at *
      intro w hE
      have ht : (⟨t.toArray⟩ : ByteArray).size ≤ 140737488351232 := Nat.le_trans (show t.length ≤ _ from hsz) hs
      have hv : vCheck ⟨3, 0, ⟨t.toArray⟩⟩ = txE ⟨t.toArray⟩ := rfl
      by_cases hz : txE ⟨t.toArray⟩ = 0
      · have := Of_ok 3 0 ⟨t.toArray⟩ w ht hE (hv.trans hz)
        simpa only [ansV, hz, if_true] using this
      · have := Of_bad 3 0 ⟨t.toArray⟩ w ht hE (by rw [hv]; omega)
        rw [hv] at this
        simpa only [ansV, hz, if_false, errV_pos A (Nat.pos_of_ne_zero hz)] using this
    generalize (Lib.trimPrefix s.data.toList [39]) = t at *
    have E := Lib.hid E
    obtain ⟨v1, v2, ha⟩ : ∃ v1 v2, ansV A (⟨3, 0, ⟨t.toArray⟩⟩, txE ⟨t.toArray⟩) = .tuple #[v1, v2] := by
      unfold ansV; split <;> exact ⟨_, _, rfl⟩
    rw [ha] at E ⊢
    clear h4 ha
    go_enter Tryz.func44, Tryz.ntmps44
    (go_wp2_with fail; repeat (any_goals (go_quiet (fail); go_wp2_with fail)))
    refine (C.out _).mono ?_
    rintro e w1 ⟨rfl, rfl⟩
    (go_wp2_with fail; repeat (any_goals (go_quiet (fail); go_wp2_with fail)))
    refine (E.out _ hE).mono ?_
    rintro e w1 ⟨rfl, hb⟩
    (go_wp2_with fail; repeat (any_goals (go_quiet (fail); go_wp2_with fail)))
    go_ret2
    exact ⟨rfl, (by repeat (first | assumption | exact Below.refl _ _ | apply Below.drew | apply below_drewN | apply balloc | (refine Below.setCell ?_ (by first | omega | (simp <;> omega)) _)))⟩
  | false =>
    rw [if_neg (by simp)]
    rw [h4] at C
    cases h5 : wholeB s with
    | false =>
      rw [if_neg (by simp)]
      rw [h5] at D
      clear h4 h5
      go_enter Tryz.func44, Tryz.ntmps44
      (go_wp2_with fail; repeat (any_goals (go_quiet (fail); go_wp2_with fail)))
      refine (C.out _).mono ?_
      rintro e w1 ⟨rfl, rfl⟩
      (go_wp2_with fail; repeat (any_goals (go_quiet (fail); go_wp2_with fail)))
      refine (D.out _).mono ?_
      rintro e w1 ⟨rfl, hb⟩
      have c5 := (hE.next hb).e5
      (go_wp2_with fail; repeat (any_goals (go_quiet (fail); go_wp2_with fail)))
      go_ret2
      exact ⟨rfl, (by repeat (first | assumption | exact Below.refl _ _ | apply Below.drew | apply below_drewN | apply balloc | (refine Below.setCell ?_ (by first | omega | (simp <;> omega)) _)))⟩
    | true =>
      rw [if_pos rfl]
      rw [h5] at D
      clear h4 h5
      have hpi : (∃ v, Lib.parseIntB 64 s.data.toList = .ok v) ∨ ∀ v, Lib.parseIntB 64 s.data.toList ≠ .ok v := by
        by_cases h : ∃ v, Lib.parseIntB 64 s.data.toList = .ok v
        · exact Or.inl h
        · exact Or.inr fun v hv => h ⟨v, hv⟩
      rcases hpi with ⟨v, hv⟩ | hv
      · have G := Lib.hid (fun w hE => ParseInt_ok (A := A) (B := B) s w hs hE v hv)
        rw [hv]
        clear hv
        go_enter Tryz.func44, Tryz.ntmps44
        (go_wp2_with fail; repeat (any_goals (go_quiet (fail); go_wp2_with fail)))
        refine (C.out _).mono ?_
        rintro e w1 ⟨rfl, rfl⟩
        (go_wp2_with fail; repeat (any_goals (go_quiet (fail); go_wp2_with fail)))
        refine (D.out _).mono ?_
        rintro e w1 ⟨rfl, hb⟩
        have hE1 := hE.next hb
        (go_wp2_with fail; repeat (any_goals (go_quiet (fail); go_wp2_with fail)))
        refine (G.out _ hE1).mono ?_
        rintro e w2 ⟨rfl, hb2⟩
        have hb3 := bcall hb hb2
        clear hb hb2
        (go_wp2_with fail; repeat (any_goals (go_quiet (fail); go_wp2_with fail)))
        go_ret2
        exact ⟨rfl, (by repeat (first | assumption | exact Below.refl _ _ | apply Below.drew | apply below_drewN | apply balloc | (refine Below.setCell ?_ (by first | omega | (simp <;> omega)) _)))⟩
      · have G := Lib.hid (fun w hE => ParseInt_bad (A := A) (B := B) s w hs hE hv)
        have hm : (match Lib.parseIntB 64 s.data.toList with | .ok v => ((⟨2, v, ⟨#[]⟩⟩ : Pl), 0) | _ => (⟨0, 0, ⟨#[]⟩⟩, 4)) = (⟨0, 0, ⟨#[]⟩⟩, 4) := by
          cases hp : Lib.parseIntB 64 s.data.toList
          case ok v => exact absurd hp (hv v)
          all_goals rfl
        rw [hm]
        clear hv hm
        go_enter Tryz.func44, Tryz.ntmps44
        (go_wp2_with fail; repeat (any_goals (go_quiet (fail); go_wp2_with fail)))
        refine (C.out _).mono ?_
        rintro e w1 ⟨rfl, rfl⟩
        (go_wp2_with fail; repeat (any_goals (go_quiet (fail); go_wp2_with fail)))
        refine (D.out _).mono ?_
        rintro e w1 ⟨rfl, hb⟩
        have hE1 := hE.next hb
        (go_wp2_with fail; repeat (any_goals (go_quiet (fail); go_wp2_with fail)))
        refine (G.out _ hE1).mono ?_
        rintro e w2 ⟨⟨n, a, rfl⟩, hb2⟩
        have hb3 := bcall hb hb2
        clear hb hb2
        have c4 := (hE.next hb3).e4
        (go_wp2_with fail; repeat (any_goals (go_quiet (fail); go_wp2_with fail)))
        go_ret2
        exact ⟨rfl, (by repeat (first | assumption | exact Below.refl _ _ | apply Below.drew | apply below_drewN | apply balloc | (refine Below.setCell ?_ (by first | omega | (simp <;> omega)) _)))⟩

end Go.Proofs.YtfdhklpabhhjjaaGreatDoor
