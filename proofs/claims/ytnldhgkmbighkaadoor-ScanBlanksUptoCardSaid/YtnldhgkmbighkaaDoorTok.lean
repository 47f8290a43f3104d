/- Lists of tokens in memory; the statements' same; vellumnum.Place. -/
import Derived.Test.YtnldhgkmbighkaaDoorSRef7
import Derived.Test.YtnldhgkmbighkaaDoorScan12
import Derived.Test.YtnldhgkmbighkaaDoorNum
namespace Go.Proofs.YtnldhgkmbighkaaDoor
open Go Go.RowKit

theorem flat_get : ∀ (ts : List Tk) (j : Nat) (T : Tk) (i : Nat), ts[j]? = some T → i < 4 → (ts.flatMap tkC)[j * 4 + i]? = (tkC T)[i]?
  | [], j, T, i, h, _ => by simp at h
  | t :: ts, 0, T, i, h, hi => by
    simp at h
    subst h
    rw [List.flatMap_cons, Nat.zero_mul, Nat.zero_add, List.getElem?_append_left (by show i < 4; exact hi)]
  | t :: ts, j + 1, T, i, h, hi => by
    simp at h
    rw [List.flatMap_cons, List.getElem?_append_right (by show 4 ≤ (j + 1) * 4 + i; omega)]
    have : (j + 1) * 4 + i - (tkC t).length = j * 4 + i := by show (j + 1) * 4 + i - 4 = _; omega
    rw [this]
    exact flat_get ts j T i h hi
theorem OwnT.form {w : World} {base : Nat} {v : Value} {ts : List Tk} (h : OwnT w base v ts) : (ts = [] ∧ v = .slice none 0 0) ∨ ∃ g cap, v = .slice (some ⟨g, 0, none⟩) ts.length cap ∧ base ≤ g ∧ g < w.heap.size ∧ ts.length ≤ cap ∧ cap ≤ maxLen := by
  obtain ⟨h1, ⟨rfl, h3⟩ | ⟨g, cap, cur, rfl, hbg, hg, hn, hc, hz, ht⟩⟩ := h
  · exact Or.inl ⟨List.eq_nil_of_length_eq_zero h3, rfl⟩
  · exact Or.inr ⟨g, cap, rfl, hbg, ltB hg, hn, hc⟩
theorem OwnT.at {w : World} {base g n cap : Nat} {ts : List Tk} (h : OwnT w base (.slice (some ⟨g, 0, none⟩) n cap) ts) {j : Nat} {T : Tk} (hj : ts[j]? = some T) :
    w.cell? ⟨g, j * 4, none⟩ = some (.int .i64 (T.kind : Int)) ∧ w.cell? ⟨g, j * 4 + 1, none⟩ = some (.int .i64 (T.fr : Int)) ∧ w.cell? ⟨g, j * 4 + 2, none⟩ = some (.int .i64 (T.to : Int)) ∧ w.cell? ⟨g, j * 4 + 3, none⟩ = some (.string T.text) := by
  obtain ⟨h1, ⟨h2, _⟩ | ⟨g', cap', cur, h2, hbg, hg, hn, hc, hz, ht⟩⟩ := h
  · cases h2
  · cases h2
    have hjl : j < ts.length := by
      rcases Nat.lt_or_ge j ts.length with h | h
      · exact h
      · rw [List.getElem?_eq_none h] at hj; cases hj
    have key : ∀ i u, i < 4 → (tkC T)[i]? = some u → w.cell? ⟨g, j * 4 + i, none⟩ = some u := by
      intro i u hi hu
      refine cellB hg (j * 4 + i) ?_
      have h3 := flat_get ts j T i hj hi
      rw [← ht, List.getElem?_take_of_lt (by omega), Array.getElem?_toList] at h3
      rw [h3, hu]
    exact ⟨key 0 _ (by decide) rfl, key 1 _ (by decide) rfl, key 2 _ (by decide) rfl, key 3 _ (by decide) rfl⟩
theorem neqTk_same (k n m : Int) (t : ByteArray) (w : World) :
    (binOp .neq 28 (.agg #[.int .i64 k, .int .i64 n, .int .i64 m, .string t]) (.agg #[.int .i64 k, .int .i64 n, .int .i64 m, .string t])).run Tryd.prog w = .ok (.bool false) w := by
  go_simp
set_option maxHeartbeats 2000000 in
set_option maxRecDepth 100000 in
theorem same_true {b1 b2 : Nat} {v1 v2 : Value} {ts : List Tk} (w : World) (h1 : OwnT w b1 v1 ts) (h2 : OwnT w b2 v2 ts) :
    Calls Tryd.prog 20 #[v1, v2] w fun e w' => e = .returned (.bool true) ∧ Below w.heap.size w w' := by
  have neq := neqTk_same
  rcases h1.form with ⟨rfl, rfl⟩ | ⟨g1, c1, rfl, hb1, hg1, hl1, hm1⟩
  · rcases h2.form with ⟨_, rfl⟩ | ⟨g2, c2, rfl, hb2, hg2, hl2, hm2⟩
    · replace h1 := Lib.hid h1
      replace h2 := Lib.hid h2
      go_enter Tryd.func20, Tryd.ntmps20
      (go_wp2_with fail; repeat (any_goals (go_quiet (fail); go_wp2_with fail)))
      go_loopw [13] (fun v wr => v = .int .i64 0 ∧ Below w.heap.size w wr) (fun _ _ => 0)
      case atStart => exact ⟨rfl, (by repeat (first | assumption | exact Below.refl _ _ | apply Below.drew | apply below_drewN | apply balloc | (refine Below.setCell ?_ (by first | omega | (simp <;> omega)) _)))⟩
      case round =>
        obtain ⟨rfl, hB⟩ := hrel
        (go_wp2_with fail; repeat (any_goals (go_quiet (fail); go_wp2_with fail)))
        go_ret
        exact ⟨rfl, (by repeat (first | assumption | exact Below.refl _ _ | apply Below.drew | apply below_drewN | apply balloc | (refine Below.setCell ?_ (by first | omega | (simp <;> omega)) _)))⟩
    · replace h1 := Lib.hid h1
      replace h2 := Lib.hid h2
      go_enter Tryd.func20, Tryd.ntmps20
      (go_wp2_with fail; repeat (any_goals (go_quiet (fail); go_wp2_with fail)))
      go_loopw [13] (fun v wr => v = .int .i64 0 ∧ Below w.heap.size w wr) (fun _ _ => 0)
      case atStart => exact ⟨rfl, (by repeat (first | assumption | exact Below.refl _ _ | apply Below.drew | apply below_drewN | apply balloc | (refine Below.setCell ?_ (by first | omega | (simp <;> omega)) _)))⟩
      case round =>
        obtain ⟨rfl, hB⟩ := hrel
        (go_wp2_with fail; repeat (any_goals (go_quiet (fail); go_wp2_with fail)))
        go_ret
        exact ⟨rfl, (by repeat (first | assumption | exact Below.refl _ _ | apply Below.drew | apply below_drewN | apply balloc | (refine Below.setCell ?_ (by first | omega | (simp <;> omega)) _)))⟩
  · rcases h2.form with ⟨rfl, rfl⟩ | ⟨g2, c2, rfl, hb2, hg2, hl2, hm2⟩
    · replace h1 := Lib.hid h1
      replace h2 := Lib.hid h2
      go_enter Tryd.func20, Tryd.ntmps20
      (go_wp2_with fail; repeat (any_goals (go_quiet (fail); go_wp2_with fail)))
      go_loopw [13] (fun v wr => v = .int .i64 0 ∧ Below w.heap.size w wr) (fun _ _ => 0)
      case atStart => exact ⟨rfl, (by repeat (first | assumption | exact Below.refl _ _ | apply Below.drew | apply below_drewN | apply balloc | (refine Below.setCell ?_ (by first | omega | (simp <;> omega)) _)))⟩
      case round =>
        obtain ⟨rfl, hB⟩ := hrel
        (go_wp2_with fail; repeat (any_goals (go_quiet (fail); go_wp2_with fail)))
        go_ret
        exact ⟨rfl, (by repeat (first | assumption | exact Below.refl _ _ | apply Below.drew | apply below_drewN | apply balloc | (refine Below.setCell ?_ (by first | omega | (simp <;> omega)) _)))⟩
    · replace h1 := Lib.hid h1
      replace h2 := Lib.hid h2
      unfold maxLen at hm1 hm2
      obtain ⟨n, hn⟩ : ∃ n, n = ts.length := ⟨_, rfl⟩
      rw [← hn] at hl1 hl2 h1 h2 ⊢
      have hn1 : (n : Int) ≤ 9223372036854775807 := by omega
      replace hn := Lib.hid hn
      go_enter Tryd.func20, Tryd.ntmps20
      (go_wp2_with fail; repeat (any_goals (go_quiet (fail); go_wp2_with fail)))
      go_loopw [13] (fun v wr => ∃ k : Nat, k ≤ n ∧ v = .int .i64 (k : Int) ∧ Below w.heap.size w wr) (fun v _ => n - (intOf v).toNat)
      case atStart => exact ⟨0, Nat.zero_le _, rfl, (by repeat (first | assumption | exact Below.refl _ _ | apply Below.drew | apply below_drewN | apply balloc | (refine Below.setCell ?_ (by first | omega | (simp <;> omega)) _)))⟩
      case round =>
        obtain ⟨k, hk, rfl, hB⟩ := hrel
        by_cases hlt : k < n
        · have hj : ts[k]? = some (ts[k]'(by rw [← hn.out]; exact hlt)) := List.getElem?_eq_getElem _
          obtain ⟨x0, x1, x2, x3⟩ := (h1.out.next hB).at hj
          obtain ⟨y0, y1, y2, y3⟩ := (h2.out.next hB).at hj
          replace hj := Lib.hid hj
          generalize ts[k]'(by rw [← hn.out]; exact hlt) = T at *
          (go_wp2_with fail; repeat (any_goals (go_quiet (fail); go_wp2_with fail)))
          go_roundw
          case rel => exact ⟨k + 1, by omega, by go_num, (by repeat (first | assumption | exact Below.refl _ _ | apply Below.drew | apply below_drewN | apply balloc | (refine Below.setCell ?_ (by first | omega | (simp <;> omega)) _)))⟩
          case measure => simp [intOf]; omega
        · (go_wp2_with fail; repeat (any_goals (go_quiet (fail); go_wp2_with fail)))
          go_ret
          exact ⟨rfl, (by repeat (first | assumption | exact Below.refl _ _ | apply Below.drew | apply below_drewN | apply balloc | (refine Below.setCell ?_ (by first | omega | (simp <;> omega)) _)))⟩
@[go_sem] theorem as_At (v : Value) (w : World) : (Instr.typeAssert (.iface 34 v) 31 34 true).run Tryd.prog w = .ok (.tuple #[v, .bool true]) w := by kernel_rfl
set_option maxHeartbeats 1000000 in
theorem Place_nil (w : World) : Calls Tryd.prog 30 #[.nilIface] w fun e w' => e = .returned (.tuple #[.int .i64 0, .int .i64 0]) ∧ Below w.heap.size w w' := by
  go_enter Tryd.func30, Tryd.ntmps30
  (go_wp2_with fail; repeat (any_goals (go_quiet (fail); go_wp2_with fail)))
  go_ret2
  exact ⟨rfl, (by repeat (first | assumption | exact Below.refl _ _ | apply Below.drew | apply below_drewN | apply balloc | (refine Below.setCell ?_ (by first | omega | (simp <;> omega)) _)))⟩
set_option maxHeartbeats 1000000 in
set_option maxRecDepth 100000 in
theorem Place_at {A : Nat → Addr} {B : Nat} (k : Nat) (p : Int) (g : Nat) (w : World) (h1 : 1 ≤ k) (h2 : k ≤ 19) (hE : Env A B SVN w) (hat : AtB p (.iface 203 (.pointer (some (A k)))) g w) :
    Calls Tryd.prog 30 #[.iface 34 (.pointer (some ⟨g, 0, none⟩))] w fun e w' => e = .returned (.tuple #[.int .i64 (k : Int), .int .i64 p]) ∧ Below w.heap.size w w' := by
  have N := Lib.hid (fun w hE => Num_err (A := A) (B := B) k w h1 h2 hE)
  have x0 : w.cell? ⟨g, 0, none⟩ = some (.int .i64 p) := cellB hat 0 rfl
  have x1 : w.cell? ⟨g, 1, none⟩ = some (.iface 203 (.pointer (some (A k)))) := cellB hat 1 rfl
  have hk : ¬ (k : Int) < 1 := by omega
  replace hat := Lib.hid hat
  replace h1 := Lib.hid h1
  go_enter Tryd.func30, Tryd.ntmps30
  (go_wp2_with fail; repeat (any_goals (go_quiet (fail); go_wp2_with fail)))
  refine (N.out _ (hE.next (by repeat (first | assumption | exact Below.refl _ _ | apply Below.drew | apply below_drewN | apply balloc | (refine Below.setCell ?_ (by first | omega | (simp <;> omega)) _))))).mono ?_
  rintro e w1 ⟨rfl, hb⟩
  have hb1 : Below w.heap.size w w1 := bcall (by repeat (first | assumption | exact Below.refl _ _ | apply Below.drew | apply below_drewN | apply balloc | (refine Below.setCell ?_ (by first | omega | (simp <;> omega)) _))) hb
  have y0 : w1.cell? ⟨g, 0, none⟩ = some (.int .i64 p) := cellB (box_next hat.out hb1) 0 rfl
  clear hb x0 x1
  (go_wp2_with fail; repeat (any_goals (go_quiet (fail); go_wp2_with fail)))
  go_ret2
  exact ⟨rfl, (by repeat (first | assumption | exact Below.refl _ _ | apply Below.drew | apply below_drewN | apply balloc | (refine Below.setCell ?_ (by first | omega | (simp <;> omega)) _)))⟩

end Go.Proofs.YtnldhgkmbighkaaDoor
