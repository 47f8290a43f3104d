/- ScanBlanks: glued. -/
import Derived.Test.YtnldhgkmbighkaaDoorFixed17
import Derived.Test.YtnldhgkmbighkaaDoorBlanksPlain
namespace Go.Proofs.YtnldhgkmbighkaaDoor
open Go Go.RowKit

/-- v is a list of whole numbers that lies in w. -/
def IntsAt (w : World) (v : Value) (zs : List Int) : Prop :=
  (zs = [] ∧ ∃ a c, v = .slice a 0 c) ∨ ∃ b off cap, v = .slice (some ⟨b, off, none⟩) zs.length cap ∧ zs.length ≤ cap ∧ cap ≤ maxLen ∧ b < w.heap.size ∧ ∀ i z, zs[i]? = some z → w.cell? ⟨b, off + i, none⟩ = some (.int .i64 z)
theorem IntsAt.next {w w' : World} {v : Value} {zs : List Int} (h : IntsAt w v zs) (hb : Below w.heap.size w w') : IntsAt w' v zs := by
  rcases h with h | ⟨b, off, cap, h1, h2, h3, h4, h5⟩
  · exact Or.inl h
  · exact Or.inr ⟨b, off, cap, h1, h2, h3, Nat.lt_of_lt_of_le h4 hb.size, fun i z hz => (hb.cell (p := ⟨b, off + i, none⟩) h4).trans (h5 i z hz)⟩
theorem gapN_some {zs : List Int} {i : Nat} {z : Int} (h : zs[i]? = some z) : ∃ u : Int, IntKind.u64.wrap z = u ∧ 0 ≤ u ∧ u % 6 = (gapN zs i : Int) := by
  refine ⟨IntKind.u64.wrap z, rfl, ?_, ?_⟩
  · simp [IntKind.wrap, IntKind.signed, IntKind.bits]; omega
  · unfold gapN
    rw [h]
    have : IntKind.u64.wrap z = z.emod 18446744073709551616 := by simp [IntKind.wrap, IntKind.signed, IntKind.bits]; rfl
    rw [this]
    have h0 : 0 ≤ z.emod 18446744073709551616 := Int.emod_nonneg _ (by decide)
    simp only
    omega
theorem gapN_none {zs : List Int} {i : Nat} (h : zs.length ≤ i) : gapN zs i = 0 := by unfold gapN; rw [List.getElem?_eq_none h]
/-- What glued answers. -/
def GluedR (ts : List Tk) (zs : List Int) (e : Ending) : Prop := ∃ b, e = .returned (.bool b) ∧ (b = false → ∀ j, 1 ≤ j → j < ts.length → ¬ gluedAt zs ts j)
set_option maxHeartbeats 8000000 in
set_option maxRecDepth 100000 in
theorem glued_calls {base : Nat} {v gv : Value} {ts : List Tk} {zs : List Int} (s : ByteArray) (w : World) (ho : OwnT w base v ts) (hg : IntsAt w gv zs) (hzs : zs.length ≤ 3000) :
    Calls Tryd.prog 19 #[v, gv, .string s] w fun e w' => GluedR ts zs e ∧ Below w.heap.size w w' := by
  rcases ho.form with ⟨rfl, rfl⟩ | ⟨g, cap, rfl, hbg, hgl, hnl, hcm⟩
  · replace ho := Lib.hid ho
    replace hg := Lib.hid hg
    go_enter Tryd.func19, Tryd.ntmps19
    (go_wp2_with fail; repeat (any_goals (go_quiet (fail); go_wp2_with fail)))
    go_loopw [7] (fun v7 wr => v7 = .int .i64 1 ∧ Below w.heap.size w wr) (fun _ _ => 0)
    case atStart => exact ⟨rfl, (by repeat (first | assumption | exact Below.refl _ _ | apply Below.drew | apply below_drewN | apply balloc | (refine Below.setCell ?_ (by first | omega | (simp <;> omega)) _)))⟩
    case round =>
      obtain ⟨rfl, hB⟩ := hrel
      (go_wp2_with fail; repeat (any_goals (go_quiet (fail); go_wp2_with fail)))
      go_ret
      exact ⟨⟨false, rfl, fun _ j h1 h2 => by simp at h2⟩, hB⟩
  obtain ⟨n, hn⟩ : ∃ n, n = ts.length := ⟨_, rfl⟩
  rw [← hn] at hnl ho ⊢
  unfold maxLen at hcm
  have hn1 : (n : Int) ≤ 9223372036854775807 := by omega
  replace hn := Lib.hid hn
  replace ho := Lib.hid ho
  rcases hg with ⟨hz0, za, zc, rfl⟩ | ⟨b, off, gc, rfl, hgc, hgm, hbl, hread⟩
  · replace hz0 := Lib.hid hz0
    go_enter Tryd.func19, Tryd.ntmps19
    (go_wp2_with fail; repeat (any_goals (go_quiet (fail); go_wp2_with fail)))
    go_loopw [7] (fun v7 wr => ∃ q : Nat, q ≤ n ∧ v7 = .int .i64 ((q : Int) + 1) ∧ Hid (∀ j, 1 ≤ j → j < q + 1 → ¬ gluedAt zs ts j) ∧ Below w.heap.size w wr) (fun v _ => n + 1 - (intOf v).toNat)
    case atStart => exact ⟨0, Nat.zero_le _, rfl, Lib.hid (fun j h1 h2 => by omega), (by repeat (first | assumption | exact Below.refl _ _ | apply Below.drew | apply below_drewN | apply balloc | (refine Below.setCell ?_ (by first | omega | (simp <;> omega)) _)))⟩
    case round =>
      obtain ⟨q, hq, rfl, hno, hB⟩ := hrel
      have hq1 : (0 : Int) ≤ (q : Int) + 1 := by omega
      by_cases hlt : q + 1 < n
      · skip
        have hlt' : (q : Int) + 1 < (n : Int) := by omega
        obtain ⟨T, hT⟩ : ∃ T, ts[q]? = some T := ⟨ts[q]'(by rw [← hn.out]; omega), List.getElem?_eq_getElem _⟩
        obtain ⟨T', hT'⟩ : ∃ T, ts[q + 1]? = some T := ⟨ts[q + 1]'(by rw [← hn.out]; omega), List.getElem?_eq_getElem _⟩
        obtain ⟨_, _, x2, _⟩ := (ho.out.next hB).at hT
        obtain ⟨_, y1, _, _⟩ := (ho.out.next hB).at hT'
        have hj0 := Lib.hid hT
        have hj1 := Lib.hid hT'
        clear hT hT'
        by_cases hlt2 : T.to < T'.fr
        · have hlt2' : (T.to : Int) < (T'.fr : Int) := by omega
          replace hlt2 := Lib.hid hlt2
          (go_wp2_with fail; repeat (any_goals (go_quiet (fail); go_wp2_with fail)))
          go_ret
          exact ⟨⟨true, rfl, fun h => by cases h⟩, (by repeat (first | assumption | exact Below.refl _ _ | apply Below.drew | apply below_drewN | apply balloc | (refine Below.setCell ?_ (by first | omega | (simp <;> omega)) _)))⟩
        · have hlt2' : ¬ (T.to : Int) < (T'.fr : Int) := by omega
          have hng : Hid (¬ gluedAt zs ts (q + 1)) := Lib.hid (by
            rintro ⟨_, X, Y, h1, h2, h3⟩
            rw [Nat.add_sub_cancel, hj0.out] at h1
            rw [hj1.out] at h2
            cases h1; cases h2; exact hlt2 h3)
          replace hlt2 := Lib.hid hlt2
          (go_wp2_with fail; repeat (any_goals (go_quiet (fail); go_wp2_with fail)))
          go_roundw
          case measure => simp [intOf]; omega
          case rel => exact ⟨q + 1, by omega, by go_num, Lib.hid (fun j h1 h2 => by
            rcases (show j < q + 1 ∨ j = q + 1 by omega) with h | h
            · exact hno.out j h1 h
            · subst h; exact hng.out), by repeat (first | assumption | apply Below.drew | apply below_drewN)⟩
      · have hlt' : ¬ (q : Int) + 1 < (n : Int) := by omega
        (go_wp2_with fail; repeat (any_goals (go_quiet (fail); go_wp2_with fail)))
        go_ret
        exact ⟨⟨false, rfl, fun _ j h1 h2 => hno.out j h1 (by have := hn.out; omega)⟩, (by repeat (first | assumption | exact Below.refl _ _ | apply Below.drew | apply below_drewN | apply balloc | (refine Below.setCell ?_ (by first | omega | (simp <;> omega)) _)))⟩
  · obtain ⟨m, hm⟩ : ∃ m, m = zs.length := ⟨_, rfl⟩
    rw [← hm] at hgc ⊢
    have hm1 : (m : Int) ≤ 3000 := by omega
    unfold maxLen at hgm
    replace hm := Lib.hid hm
    replace hread := Lib.hid hread
    go_enter Tryd.func19, Tryd.ntmps19
    (go_wp2_with fail; repeat (any_goals (go_quiet (fail); go_wp2_with fail)))
    go_loopw [7] (fun v7 wr => ∃ q : Nat, q ≤ n ∧ v7 = .int .i64 ((q : Int) + 1) ∧ Hid (∀ j, 1 ≤ j → j < q + 1 → ¬ gluedAt zs ts j) ∧ Below w.heap.size w wr) (fun v _ => n + 1 - (intOf v).toNat)
    case atStart => exact ⟨0, Nat.zero_le _, rfl, Lib.hid (fun j h1 h2 => by omega), (by repeat (first | assumption | exact Below.refl _ _ | apply Below.drew | apply below_drewN | apply balloc | (refine Below.setCell ?_ (by first | omega | (simp <;> omega)) _)))⟩
    case round =>
      obtain ⟨q, hq, rfl, hno, hB⟩ := hrel
      by_cases hlt : q + 1 < n
      · skip
        have hlt' : (q : Int) + 1 < (n : Int) := by omega
        obtain ⟨T, hT⟩ : ∃ T, ts[q]? = some T := ⟨ts[q]'(by rw [← hn.out]; omega), List.getElem?_eq_getElem _⟩
        obtain ⟨T', hT'⟩ : ∃ T, ts[q + 1]? = some T := ⟨ts[q + 1]'(by rw [← hn.out]; omega), List.getElem?_eq_getElem _⟩
        obtain ⟨_, _, x2, _⟩ := (ho.out.next hB).at hT
        obtain ⟨_, y1, _, _⟩ := (ho.out.next hB).at hT'
        have hj0 := Lib.hid hT
        have hj1 := Lib.hid hT'
        clear hT hT'
        by_cases hqm : q + 1 < m
        · have hqm' : (q : Int) + 1 < (m : Int) := by omega
          have hge : decide ((m : Int) ≤ (q : Int) + 1) = false := by simp; omega
          obtain ⟨z, hzz⟩ : ∃ z, zs[q + 1]? = some z := ⟨zs[q + 1]'(by rw [← hm.out]; omega), List.getElem?_eq_getElem _⟩
          have hzc : wr.cell? ⟨b, off + (q + 1), none⟩ = some (.int .i64 z) := (hB.cell (p := ⟨b, off + (q + 1), none⟩) hbl).trans (hread.out _ _ hzz)
          obtain ⟨u, hu, hu0, hu6⟩ := gapN_some hzz
          replace hzz := Lib.hid hzz
          by_cases hz : gapN zs (q + 1) = 0
          · have hu7 : (u % 6 == 0) = true := by rw [hu6, hz]; rfl
            replace hz := Lib.hid hz
            replace hu6 := Lib.hid hu6
            by_cases hlt2 : T.to < T'.fr
            · have hlt2' : (T.to : Int) < (T'.fr : Int) := by omega
              replace hlt2 := Lib.hid hlt2
              (go_wp2_with fail; repeat (any_goals (go_quiet (fail); go_wp2_with fail)))
              go_ret
              exact ⟨⟨true, rfl, fun h => by cases h⟩, (by repeat (first | assumption | exact Below.refl _ _ | apply Below.drew | apply below_drewN | apply balloc | (refine Below.setCell ?_ (by first | omega | (simp <;> omega)) _)))⟩
            · have hlt2' : ¬ (T.to : Int) < (T'.fr : Int) := by omega
              have hng : Hid (¬ gluedAt zs ts (q + 1)) := Lib.hid (by
                rintro ⟨_, X, Y, h1, h2, h3⟩
                rw [Nat.add_sub_cancel, hj0.out] at h1
                rw [hj1.out] at h2
                cases h1; cases h2; exact hlt2 h3)
              replace hlt2 := Lib.hid hlt2
              (go_wp2_with fail; repeat (any_goals (go_quiet (fail); go_wp2_with fail)))
              go_roundw
              case measure => simp [intOf]; omega
              case rel => exact ⟨q + 1, by omega, by go_num, Lib.hid (fun j h1 h2 => by
                rcases (show j < q + 1 ∨ j = q + 1 by omega) with h | h
                · exact hno.out j h1 h
                · subst h; exact hng.out), by repeat (first | assumption | apply Below.drew | apply below_drewN)⟩
          · have hu7 : (u % 6 == 0) = false := by rw [hu6]; simp; omega
            replace hu6 := Lib.hid hu6
            have hng : Hid (¬ gluedAt zs ts (q + 1)) := Lib.hid (fun h => hz (by exact h.1))
            replace hz := Lib.hid hz
            (go_wp2_with fail; repeat (any_goals (go_quiet (fail); go_wp2_with fail)))
            go_roundw
            case measure => simp [intOf]; omega
            case rel => exact ⟨q + 1, by omega, by go_num, Lib.hid (fun j h1 h2 => by
              rcases (show j < q + 1 ∨ j = q + 1 by omega) with h | h
              · exact hno.out j h1 h
              · subst h; exact hng.out), by repeat (first | assumption | apply Below.drew | apply below_drewN)⟩
        · have hqm' : (m : Int) ≤ (q : Int) + 1 := by omega
          by_cases hlt2 : T.to < T'.fr
          · have hlt2' : (T.to : Int) < (T'.fr : Int) := by omega
            replace hlt2 := Lib.hid hlt2
            (go_wp2_with fail; repeat (any_goals (go_quiet (fail); go_wp2_with fail)))
            go_ret
            exact ⟨⟨true, rfl, fun h => by cases h⟩, (by repeat (first | assumption | exact Below.refl _ _ | apply Below.drew | apply below_drewN | apply balloc | (refine Below.setCell ?_ (by first | omega | (simp <;> omega)) _)))⟩
          · have hlt2' : ¬ (T.to : Int) < (T'.fr : Int) := by omega
            have hng : Hid (¬ gluedAt zs ts (q + 1)) := Lib.hid (by
              rintro ⟨_, X, Y, h1, h2, h3⟩
              rw [Nat.add_sub_cancel, hj0.out] at h1
              rw [hj1.out] at h2
              cases h1; cases h2; exact hlt2 h3)
            replace hlt2 := Lib.hid hlt2
            (go_wp2_with fail; repeat (any_goals (go_quiet (fail); go_wp2_with fail)))
            go_roundw
            case measure => simp [intOf]; omega
            case rel => exact ⟨q + 1, by omega, by go_num, Lib.hid (fun j h1 h2 => by
              rcases (show j < q + 1 ∨ j = q + 1 by omega) with h | h
              · exact hno.out j h1 h
              · subst h; exact hng.out), by repeat (first | assumption | apply Below.drew | apply below_drewN)⟩
      · have hlt' : ¬ (q : Int) + 1 < (n : Int) := by omega
        (go_wp2_with fail; repeat (any_goals (go_quiet (fail); go_wp2_with fail)))
        go_ret
        exact ⟨⟨false, rfl, fun _ j h1 h2 => hno.out j h1 (by have := hn.out; omega)⟩, (by repeat (first | assumption | exact Below.refl _ _ | apply Below.drew | apply below_drewN | apply balloc | (refine Below.setCell ?_ (by first | omega | (simp <;> omega)) _)))⟩

end Go.Proofs.YtnldhgkmbighkaaDoor
