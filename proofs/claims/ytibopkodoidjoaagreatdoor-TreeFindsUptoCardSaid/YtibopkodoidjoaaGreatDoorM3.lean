/- Lemmas of the proof, put together: Scan4, Build, Scan5, Scan6, SRef6, Scan7, Scan8. -/
import Derived.Test.YtibopkodoidjoaaGreatDoorM2
import Derived.Test.YtibopkodoidjoaaGreatDoorM1
import Derived.Lib.Builder
import Derived.Lib.OthersKept
import Derived.Lib.RuneBytes
import Derived.Laws.Externs
import Derived.Laws.RangeString

/- Package scan: the walk of number. -/
namespace Go.Proofs.YtibopkodoidjoaaGreatDoor
open Go Go.RowKit

theorem digits_calls' (s : ByteArray) (i : Nat) (w : World) (hs : s.size ≤ 140737488351232) (hi : i ≤ s.size) :
    Calls Tryz.prog 119 #[.string s, .int .i64 (i : Int)] w fun e w' => e = .returned (.int .i64 (digAt s i : Nat)) ∧ w = w' := (digits_calls s i w hs hi).mono fun _ _ ⟨h, hw⟩ => ⟨h, hw.symm⟩
/-- What number answers. -/
def NumBad (A : Nat → Addr) (i : Nat) (w : World) (e : Ending) (w' : World) : Prop :=
  ∃ g, w.heap.size ≤ g ∧ e = .returned (.tuple #[.int .i64 0, .iface 69 (.pointer (some ⟨g, 0, none⟩))]) ∧ AtB (i : Int) (.iface 237 (.pointer (some (A 2)))) g w'
def NumR (A : Nat → Addr) (N : Bool × Nat) (w : World) (e : Ending) (w' : World) : Prop := if N.1 = true then e = .returned (.tuple #[.int .i64 (N.2 : Int), .nilIface]) else NumBad A N.2 w e w'
theorem fracAt_no {s : ByteArray} {i : Nat} (h : bAt s i ≠ 46) : fracAt s i = (true, i) := by unfold fracAt; rw [if_neg h]
theorem fracAt_bad {s : ByteArray} {i : Nat} (h : bAt s i = 46) (h2 : digAt s (i + 1) = i + 1) : fracAt s i = (false, i + 1) := by unfold fracAt; rw [if_pos h, if_pos h2]
theorem fracAt_ok {s : ByteArray} {i : Nat} (h : bAt s i = 46) (h2 : digAt s (i + 1) ≠ i + 1) : fracAt s i = (true, digAt s (i + 1)) := by unfold fracAt; rw [if_pos h, if_neg h2]
theorem numR_bad {A : Nat → Addr} {N : Bool × Nat} {i : Nat} {w w' : World} {e : Ending} (h : N = (false, i)) : NumR A N w e w' ↔ NumBad A i w e w' := by
  subst h; unfold NumR; rw [if_neg (by simp)]
theorem numR_ok {A : Nat → Addr} {N : Bool × Nat} {i : Nat} {w w' : World} {e : Ending} (h : N = (true, i)) : NumR A N w e w' ↔ e = .returned (.tuple #[.int .i64 (i : Int), .nilIface]) := by
  subst h; unfold NumR; rw [if_pos rfl]
set_option maxHeartbeats 4000000 in
set_option maxRecDepth 100000 in
theorem number_calls {A : Nat → Addr} {B : Nat} (s : ByteArray) (p : Nat) (b : Nat) (w : World) (hE : Env A B SJ w) (hs : s.size ≤ 140737488351232) (hsc : ScB s (p : Int) b w) (hp : p < s.size) :
    Calls Tryz.prog 101 #[.pointer (some ⟨b, 0, none⟩)] w fun e w' => NumR A (numAt s p) w e w' ∧ Below w.heap.size w w' := by
  have x0 := hsc.s
  have x1 := hsc.at
  have e2 := hE.e2
  have hs' : (s.size : Int) ≤ 140737488351232 := by omega
  have hx := byte_at s p
  obtain ⟨N, hN⟩ : ∃ N, N = numAt s p := ⟨_, rfl⟩
  rw [← hN]
  replace hN := Lib.hid hN
  replace hsc := Lib.hid hsc
  have ha := minAt_bd s p hp
  have D := Lib.hid (fun i w hi => digits_calls' s i w hs hi)
  go_enter Tryz.func101, Tryz.ntmps101
  go_upto_if 16 with fail
  go_cut [4] (fun v wx => v = .int .i64 (minAt s p : Nat) ∧ w = wx)
  case first =>
    by_cases h45 : bAt s p = 45
    · have h45' : ((bAt s p : Int) == 45) = true := by simp; omega
      have em : minAt s p = p + 1 := by unfold minAt; rw [if_pos h45]
      replace h45 := Lib.hid h45
      replace em := Lib.hid em
      clear ha
      go_wp2_with fail
      go_meet
      exact ⟨by (rw [em.out]) <;> go_num, rfl⟩
    · have h45' : ((bAt s p : Int) == 45) = false := by simp; omega
      have em : minAt s p = p := by unfold minAt; rw [if_neg h45]
      replace h45 := Lib.hid h45
      replace em := Lib.hid em
      clear ha
      go_wp2_with fail
      go_meet
      exact ⟨by (rw [em.out]) <;> go_num, rfl⟩
  case rest =>
    obtain ⟨rfl, rfl⟩ := hcut
    clear hx
    obtain ⟨ha0, ha1, _⟩ := ha
    have hNe : numAt s p = if isD (bAt s (minAt s p)) = true then
      (if (fracAt s (headAt s (minAt s p))).1 = true then expAt s (fracAt s (headAt s (minAt s p))).2 else fracAt s (headAt s (minAt s p)))
      else (false, minAt s p) := rfl
    rw [hNe] at hN
    clear hNe
    replace hN := Lib.hid hN.out
    generalize minAt s p = a at *
    go_wp2_with fail
    refine (D.out a _ ha1).mono ?_
    rintro e w1 ⟨rfl, rfl⟩
    cases hd : isD (bAt s a) with
    | false =>
      have hda := digAt_none.2 hd
      have hNe : N = (false, a) := by rw [hN.out, if_neg (by rw [hd]; simp)]
      replace hd := Lib.hid hd
      go_wp2_with fail
      refine (fault_calls _ _ _ _).mono ?_
      rintro e w2 ⟨g, hg, rfl, hat, hb⟩
      go_wp2_with fail
      go_ret2
      exact ⟨(numR_bad hNe).2 ⟨g, hg, rfl, hat⟩, hb⟩
    | true =>
      have hda : ((digAt s a : Int) == (a : Int)) = false := by
        have : digAt s a ≠ a := fun h => by have := digAt_none.1 h; rw [hd] at this; cases this
        simp; omega
      have hN2 := Lib.hid (show N = _ by rw [hN.out, if_pos hd])
      have hal : (a : Int) < (s.size : Int) := by
        have := lt_of_bAt (s := s) (i := a) (by have := isD_iff.1 hd; omega)
        omega
      have hh := headAt_bd s a hd
      replace hd := Lib.hid hd
      have hx := byte_at s a
      go_upto_if 37 with fail
      go_cut [5] (fun v wx => v = .int .i64 (headAt s a : Nat) ∧ w = wx)
      case first =>
        by_cases h48 : bAt s a = 48
        · have h48' : ((bAt s a : Int) == 48) = true := by simp; omega
          have em : headAt s a = a + 1 := by unfold headAt; rw [if_pos h48]
          replace h48 := Lib.hid h48
          replace em := Lib.hid em
          clear hh
          go_wp2_with fail
          go_meet
          exact ⟨by (rw [em.out]) <;> go_num, rfl⟩
        · have h48' : ((bAt s a : Int) == 48) = false := by simp; omega
          have em : headAt s a = digAt s a := by unfold headAt; rw [if_neg h48]
          replace h48 := Lib.hid h48
          replace em := Lib.hid em
          clear hh
          go_wp2_with fail
          go_meet
          exact ⟨by rw [em.out], rfl⟩
      case rest =>
        obtain ⟨rfl, rfl⟩ := hcut
        clear hx hN
        obtain ⟨hh0, hh1⟩ := hh
        have hf := fracAt_bd s (headAt s a) hh1
        generalize headAt s a = t at *
        have hx := byte_at s t
        go_upto_region 9 with fail
        go_cut [55] (fun v wx => v = .bool ((bAt s t : Int) == 46) ∧ w = wx)
        case first =>
          by_cases htl : t < s.size
          · go_wp2_with fail
            go_meet
            exact ⟨by simp, rfl⟩
          · have h0 : bAt s t = 0 := bAt_ge s t (by omega)
            replace h0 := Lib.hid h0
            go_wp2_with fail
            go_meet
            exact ⟨by rw [h0.out]; rfl, rfl⟩
        case rest =>
          obtain ⟨rfl, rfl⟩ := hcut
          go_upto_if 55 with fail
          go_cut [5] (fun v wx => v = .int .i64 ((fracAt s t).2 : Nat) ∧ w = wx ∧ (fracAt s t).1 = true)
          case first =>
            by_cases h46 : bAt s t = 46
            · have h46' : ((bAt s t : Int) == 46) = true := by simp; omega
              have htl := lt_of_bAt (s := s) (i := t) (by omega)
              by_cases hdt : digAt s (t + 1) = t + 1
              · have hNe : N = (false, t + 1) := by rw [hN2.out, fracAt_bad h46 hdt, if_neg (by simp)]
                replace h46 := Lib.hid h46
                have hdt' : ((digAt s (t + 1) : Nat) : Int) = (t : Int) + 1 := by omega
                replace hdt := Lib.hid hdt
                have D2 := Lib.hid (fun w => digits_calls' s (t + 1) w hs htl)
                clear hf
                go_wp2_with fail
                refine (D2.out _).mono ?_
                rintro e w1 ⟨rfl, rfl⟩
                go_wp2_with fail
                refine (fault_calls _ _ _ _).mono ?_
                rintro e w2 ⟨g, hg, rfl, hat, hb⟩
                go_wp2_with fail
                go_ret2
                exact ⟨(numR_bad hNe).2 ⟨g, hg, rfl, by simpa using hat⟩, hb⟩
              · have em := fracAt_ok h46 hdt
                replace h46 := Lib.hid h46
                have hdt' : (((digAt s (t + 1) : Nat) : Int) == (t : Int) + 1) = false := by simp; omega
                replace hdt := Lib.hid hdt
                have D2 := Lib.hid (fun w => digits_calls' s (t + 1) w hs htl)
                replace em := Lib.hid em
                clear hf
                go_wp2_with fail
                refine (D2.out _).mono ?_
                rintro e w1 ⟨rfl, rfl⟩
                go_wp2_with fail
                go_meet
                exact ⟨by rw [em.out], rfl, by rw [em.out]⟩
            · have h46' : ((bAt s t : Int) == 46) = false := by simp; omega
              have em := fracAt_no h46
              replace h46 := Lib.hid h46
              replace em := Lib.hid em
              clear hf
              go_wp2_with fail
              go_meet
              exact ⟨by rw [em.out], rfl, by rw [em.out]⟩
          case rest =>
            obtain ⟨rfl, rfl, hft⟩ := hcut
            have hN3 := Lib.hid (show N = expAt s (fracAt s t).2 by rw [hN2.out, if_pos hft])
            clear hx hN2 hft
            obtain ⟨hf0, hf1⟩ := hf
            generalize (fracAt s t).2 = u at *
            have hx := byte_at s u
            go_upto_region 14 with fail
            go_cut [94] (fun v wx => v = .bool (bAt s u == 101 || bAt s u == 69) ∧ w = wx)
            case first =>
              by_cases hul : u < s.size
              · by_cases h1 : bAt s u = 101
                · have h1' : ((bAt s u : Int) == 101) = true := by simp; omega
                  replace h1 := Lib.hid h1
                  go_wp2_with fail
                  go_meet
                  exact ⟨by rw [h1.out]; rfl, rfl⟩
                · have h1' : ((bAt s u : Int) == 101) = false := by simp; omega
                  replace h1 := Lib.hid h1
                  by_cases h2 : bAt s u = 69
                  · have h2' : ((bAt s u : Int) == 69) = true := by simp; omega
                    replace h2 := Lib.hid h2
                    go_wp2_with fail
                    go_meet
                    exact ⟨by rw [h2.out]; rfl, rfl⟩
                  · have h2' : ((bAt s u : Int) == 69) = false := by simp; omega
                    replace h2 := Lib.hid h2
                    go_wp2_with fail
                    go_meet
                    exact ⟨by rw [show (bAt s u == 101) = false by simpa using h1.out, show (bAt s u == 69) = false by simpa using h2.out]; rfl, rfl⟩
              · have h0 : bAt s u = 0 := bAt_ge s u (by omega)
                replace h0 := Lib.hid h0
                go_wp2_with fail
                go_meet
                exact ⟨by rw [h0.out]; rfl, rfl⟩
            case rest =>
              obtain ⟨hv, rfl⟩ := hcut
              by_cases hE1 : bAt s u = 101 ∨ bAt s u = 69
              · rw [show (bAt s u == 101 || bAt s u == 69) = true by simpa using hE1] at hv
                subst hv
                have hul := lt_of_bAt (s := s) (i := u) (by omega)
                have hsg := signAt_bd s u hul
                have hN4 := Lib.hid (show N = if digAt s (signAt s u) = signAt s u then (false, signAt s u) else (true, digAt s (signAt s u)) by rw [hN3.out, expAt, if_pos hE1])
                replace hE1 := Lib.hid hE1
                clear hx hN3
                have hx := byte_at s (u + 1)
                go_upto_region 16 with fail
                go_cut [121] (fun v wx => v = .bool (bAt s (u + 1) == 43 || bAt s (u + 1) == 45) ∧ w = wx)
                case first =>
                  clear hsg
                  by_cases hul1 : u + 1 < s.size
                  · have hul2 : (u : Int) + 1 < (s.size : Int) := by omega
                    by_cases h1 : bAt s (u + 1) = 43
                    · have h1' : ((bAt s (u + 1) : Int) == 43) = true := by simp; omega
                      replace h1 := Lib.hid h1
                      go_wp2_with fail
                      go_meet
                      exact ⟨by rw [h1.out]; rfl, rfl⟩
                    · have h1' : ((bAt s (u + 1) : Int) == 43) = false := by simp; omega
                      replace h1 := Lib.hid h1
                      by_cases h2 : bAt s (u + 1) = 45
                      · have h2' : ((bAt s (u + 1) : Int) == 45) = true := by simp; omega
                        replace h2 := Lib.hid h2
                        go_wp2_with fail
                        go_meet
                        exact ⟨by rw [h2.out]; rfl, rfl⟩
                      · have h2' : ((bAt s (u + 1) : Int) == 45) = false := by simp; omega
                        replace h2 := Lib.hid h2
                        go_wp2_with fail
                        go_meet
                        exact ⟨by rw [show (bAt s (u + 1) == 43) = false by simpa using h1.out, show (bAt s (u + 1) == 45) = false by simpa using h2.out]; rfl, rfl⟩
                  · have hul2 : (s.size : Int) ≤ (u : Int) + 1 := by omega
                    have h0 : bAt s (u + 1) = 0 := bAt_ge s (u + 1) (by omega)
                    replace h0 := Lib.hid h0
                    go_wp2_with fail
                    go_meet
                    exact ⟨by rw [h0.out]; rfl, rfl⟩
                case rest =>
                  obtain ⟨hv, rfl⟩ := hcut
                  replace hv := Lib.hid hv
                  clear hx
                  go_upto_if 121 with fail
                  go_cut [4] (fun v wx => v = .int .i64 (signAt s u : Nat) ∧ w = wx)
                  case first =>
                    by_cases h1 : bAt s (u + 1) = 43 ∨ bAt s (u + 1) = 45
                    · have hv := hv.out
                      rw [show (bAt s (u + 1) == 43 || bAt s (u + 1) == 45) = true by simpa using h1] at hv
                      subst hv
                      have em : signAt s u = u + 2 := by unfold signAt; rw [if_pos h1]
                      replace h1 := Lib.hid h1
                      replace em := Lib.hid em
                      clear hsg
                      go_wp2_with fail
                      go_meet
                      exact ⟨by rw [em.out]; simp [Value.int.injEq] <;> omega, rfl⟩
                    · have hv := hv.out
                      rw [show (bAt s (u + 1) == 43 || bAt s (u + 1) == 45) = false by simpa using h1] at hv
                      subst hv
                      have em : signAt s u = u + 1 := by unfold signAt; rw [if_neg h1]
                      replace h1 := Lib.hid h1
                      replace em := Lib.hid em
                      clear hsg
                      go_wp2_with fail
                      go_meet
                      exact ⟨by (rw [em.out]) <;> go_num, rfl⟩
                  case rest =>
                    obtain ⟨rfl, rfl⟩ := hcut
                    obtain ⟨hsg0, hsg1⟩ := hsg
                    generalize signAt s u = v at *
                    have D2 := Lib.hid (fun w => digits_calls' s v w hs hsg1)
                    by_cases hdt : digAt s v = v
                    · have hNe : N = (false, v) := by rw [hN4.out, if_pos hdt]
                      have hdt' : ((digAt s v : Nat) : Int) = (v : Int) := by omega
                      replace hdt := Lib.hid hdt
                      clear hN4
                      go_wp2_with fail
                      refine (D2.out _).mono ?_
                      rintro e w1 ⟨rfl, rfl⟩
                      go_wp2_with fail
                      refine (fault_calls _ _ _ _).mono ?_
                      rintro e w2 ⟨g, hg, rfl, hat, hb⟩
                      go_wp2_with fail
                      go_ret2
                      exact ⟨(numR_bad hNe).2 ⟨g, hg, rfl, hat⟩, hb⟩
                    · have hNe : N = (true, digAt s v) := by rw [hN4.out, if_neg hdt]
                      have hdt' : (((digAt s v : Nat) : Int) == (v : Int)) = false := by simp; omega
                      replace hdt := Lib.hid hdt
                      replace hNe := Lib.hid hNe
                      clear hN4
                      go_wp2_with fail
                      refine (D2.out _).mono ?_
                      rintro e w1 ⟨rfl, rfl⟩
                      go_wp2_with fail
                      go_ret2
                      exact ⟨(numR_ok hNe.out).2 rfl, Below.refl _ _⟩
              · rw [show (bAt s u == 101 || bAt s u == 69) = false by simpa using hE1] at hv
                subst hv
                have hNe : N = (true, u) := by rw [hN3.out, expAt, if_neg hE1]
                replace hE1 := Lib.hid hE1
                replace hNe := Lib.hid hNe
                clear hx hN3
                go_wp2_with fail
                go_ret2
                exact ⟨(numR_ok hNe.out).2 rfl, Below.refl _ _⟩

end Go.Proofs.YtibopkodoidjoaaGreatDoor

/- strings.Builder: WriteRune at this program (its copyCheck's panic is refused by the loader, so the shelf's contract does not lie). -/
namespace Go.Proofs.YtibopkodoidjoaaGreatDoor
open Go Go.RowKit

theorem sizeBuilder : (Tryz.prog.info? 214).map (·.size) = some 2 := by kernel_rfl
theorem liesBuilder : liesAt Tryz.prog Tryz.prog.depth 214 (2 / Tryz.prog.cellsOf 214) 0 214 1 = true := by kernel_rfl
abbrev BuIs (B b : Nat) (bs : List Value) (w : World) : Prop := Lib.IsBuilder 214 5 B b bs w

set_option maxHeartbeats 1000000 in
set_option maxRecDepth 100000 in
theorem copyCheck_used (b : Nat) (w : World) (h0 : w.cell? ⟨b, 0, none⟩ = some (.pointer (some ⟨b, 0, none⟩))) :
    Calls Tryz.prog 134 #[.pointer (some ⟨b, 0, none⟩)] w fun e w' => e = .returned (.tuple #[]) ∧ w' = w := by
  obtain ⟨j, hj, _⟩ := Option.map_eq_some_iff.1 sizeBuilder
  go_enter Tryz.func134, Tryz.ntmps134
  go_wp2_with fail
  rw [Lib.run_neq_ptr_same w _ Tryz.underlying212 hj]
  go_wp2_with fail
  go_end0
  exact ⟨rfl, rfl⟩
set_option maxHeartbeats 1000000 in
set_option maxRecDepth 100000 in
theorem copyCheck_fresh (b : Nat) (w : World) (h0 : w.cell? ⟨b, 0, none⟩ = some (.pointer none)) (hsh : w.shape? b = some (214, 2)) (hfz : w.frozen? ⟨b, 0, none⟩ = false) :
    Calls Tryz.prog 134 #[.pointer (some ⟨b, 0, none⟩)] w fun e w' => e = .returned (.tuple #[]) ∧ w' = w.setCell ⟨b, 0, none⟩ (.pointer (some ⟨b, 0, none⟩)) := by
  obtain ⟨j, hj, hjs⟩ := Option.map_eq_some_iff.1 sizeBuilder
  have u1 := Lib.run_to_unsafe w ⟨b, 0, none⟩ Tryz.underlying212 Tryz.underlying129 hj (by rw [hjs]; decide) hsh (Nat.zero_lt_succ 1)
  have u2 := Lib.run_from_unsafe w ⟨b, 0, none⟩ Tryz.underlying129 Tryz.underlying212 hj hsh liesBuilder
  have u3 : ∀ w, (callFunc 140 #[.pointer (some ⟨b, 0, none⟩)]).run Tryz.prog w = .ok (.value (.pointer (some ⟨b, 0, none⟩))) w := by
    intro w
    rw [run_callFunc_extern Tryz.func140 (by kernel_rfl) (by kernel_rfl) (by kernel_rfl) (e := Extern.AbiNoEscape.same) (by kernel_rfl)]
    rw [Lib.run_noEscape]
    rfl
  go_enter Tryz.func134, Tryz.ntmps134
  go_wp2_with fail
  go_end0
  exact ⟨rfl, rfl⟩
theorem copyCheck_calls (B b : Nat) (bs : List Value) (w : World) (h : BuIs B b bs w) :
    Calls Tryz.prog 134 #[.pointer (some ⟨b, 0, none⟩)] w fun e w' => e = .returned (.tuple #[]) ∧ Lib.BuilderAt 214 5 B b (.pointer (some ⟨b, 0, none⟩)) bs w' ∧ Below B w w' ∧ Lib.OthersKept 5 (some b) w w' := by
  rcases h with h | h
  · refine (copyCheck_fresh b w h.cell0 h.shape h.frozen0).mono ?_
    rintro e w' ⟨rfl, rfl⟩
    exact ⟨rfl, h.used _, (Below.refl B w).setCell (p := ⟨b, 0, none⟩) h.1 _, (Lib.OthersKept.refl _ _ w).setCell ⟨b, 0, none⟩ rfl _⟩
  · refine (copyCheck_used b w h.cell0).mono ?_
    rintro e w' ⟨rfl, rfl⟩
    exact ⟨rfl, h, Below.refl B _, Lib.OthersKept.refl _ _ _⟩
set_option maxHeartbeats 2000000 in
set_option maxRecDepth 100000 in
theorem WriteRune_calls (B b : Nat) (bs : List Value) (r : Int) (w : World) (hr0 : -2147483648 ≤ r) (hr1 : r ≤ 2147483647) (h : BuIs B b bs w) (hlen : bs.length + 4 ≤ 140737488355328) (hBw : B ≤ w.heap.size) :
    Calls Tryz.prog 121 #[.pointer (some ⟨b, 0, none⟩), .int .i32 r] w fun e w' => e = .returned (.tuple #[.int .i64 (Lib.runeCells r).length, .nilIface]) ∧ BuIs B b (bs ++ Lib.runeCells r) w' ∧ Below B w w' ∧ Lib.OthersKept 5 (some b) w w' := by
  have hk4 := Lib.runeCells_le r
  have C := Lib.hid (fun w => copyCheck_calls B b bs w)
  have D := Lib.hid (fun v w => Tryz.utf8_AppendRune_plain B v bs.length bs r hr0 hr1 w)
  go_enter Tryz.func121, Tryz.ntmps121
  go_wp2_with fail
  refine (C.out _ h).mono ?_
  rintro e w1 ⟨rfl, h1, hb1, hk1⟩
  obtain ⟨hB, v, hbk, hown, hne⟩ := h1
  obtain ⟨ao, cap, rfl⟩ : ∃ ao cap, v = .slice ao bs.length cap := by
    rcases hown.2 with ⟨hv, h0⟩ | ⟨g, cap, cur, hv, _⟩
    · exact ⟨none, 0, by rw [hv, h0]⟩
    · exact ⟨_, _, hv⟩
  have c0 : w1.cell? ⟨b, 0, none⟩ = some (.pointer (some ⟨b, 0, none⟩)) := by rw [Lib.cell_of_heap hbk]; rfl
  have c1 : w1.cell? ⟨b, 1, none⟩ = some (.slice ao bs.length cap) := by rw [Lib.cell_of_heap hbk]; rfl
  go_wp2_with fail
  refine (D.out _ _ hown hlen (by have := hb1.size; omega)).mono ?_
  rintro e w2 ⟨v', rfl, hown', o, hgrow⟩
  have hlt : b < w1.heap.size := ltB hbk
  have hb2 : w2.heap[b]? = some (.cells #[.pointer (some ⟨b, 0, none⟩), .slice ao bs.length cap] 214 (0, 0)) := by
    rw [hgrow.block b (by simp; omega) (fun e => hne e.symm), Below.heap_alloc w1 _ b hlt]
    exact hbk
  have d0 : w2.cell? ⟨b, 0, none⟩ = some (.pointer (some ⟨b, 0, none⟩)) := by rw [Lib.cell_of_heap hb2]; rfl
  have d1 : w2.cell? ⟨b, 1, none⟩ = some (.slice ao bs.length cap) := by rw [Lib.cell_of_heap hb2]; rfl
  have f1 : w2.frozen? ⟨b, 1, none⟩ = false := freeB hb2 1
  obtain ⟨g, cap', rfl⟩ : ∃ g cap', v' = .slice (some ⟨g, 0, none⟩) (bs.length + (Lib.runeCells r).length) cap' := by
    rcases hown'.2 with ⟨_, h0⟩ | ⟨g, cap', cur, hv, _⟩
    · omega
    · exact ⟨g, cap', hv⟩
  go_wp2_with fail
  go_ret2
  refine ⟨?_, ?_, ?_, ((hk1.alloc _).grown hgrow ?_).setCell ⟨b, 1, none⟩ rfl _⟩
  · have e : ((bs.length : Int) + ((Lib.runeCells r).length : Int) - (bs.length : Int)) = ((Lib.runeCells r).length : Int) := by omega
    simp [e]
  · exact Or.inr (Lib.BuilderAt.put hB hb2 (bs' := bs ++ Lib.runeCells r) (by simpa using hown') (by decide))
  · exact ((hb1.alloc (by have := hb1.size; omega) _).grown hgrow (by have := hb1.size; simp; omega) (fun k hk => (hown.lt k hk).1)).setCell (p := ⟨b, 1, none⟩) hB _
  · intro g hg
    rcases (hown.alloc o).2 with ⟨hv, _⟩ | ⟨g', cap', cur, hv, _, hh, _⟩
    · rw [hv] at hg; cases hg
    · rw [hv] at hg; cases hg; exact ⟨_, _, hh⟩

end Go.Proofs.YtibopkodoidjoaaGreatDoor

/- Package scan: the walk of text. -/
namespace Go.Proofs.YtibopkodoidjoaaGreatDoor
open Go Go.RowKit

theorem BuIs.next {B b : Nat} {bs : List Value} {w w1 : World} (h : BuIs B b bs w) (hb : Below w.heap.size w w1) : BuIs B b bs w1 := by
  have key : ∀ p, Lib.BuilderAt 214 5 B b p bs w → Lib.BuilderAt 214 5 B b p bs w1 := by
    rintro p ⟨h1, v, h2, h3, h4⟩
    refine ⟨h1, v, (hb.block b (ltB h2)).trans h2, ?_, h4⟩
    obtain ⟨r1, r2⟩ := h3
    refine ⟨r1, ?_⟩
    rcases r2 with r2 | ⟨g, cap, cur, hv, hg, hh, r⟩
    · exact Or.inl r2
    · exact Or.inr ⟨g, cap, cur, hv, hg, by rw [hb.block g (ltB hh)]; exact hh, r⟩
  exact h.imp (key _) (key _)
theorem BuIs.iterAt {B b : Nat} {bs : List Value} {w : World} (h : BuIs B b bs w) {k : Nat} {s : ByteArray} {pos : Nat} (hk : w.heap[k]? = some (.stringIter s pos)) (pos' : Nat) : BuIs B b bs (w.iterAt k s pos') := by
  have key : ∀ p, Lib.BuilderAt 214 5 B b p bs w → Lib.BuilderAt 214 5 B b p bs (w.iterAt k s pos') := by
    rintro p ⟨h1, v, h2, h3, h4⟩
    have hne : b ≠ k := fun e => by rw [e, hk] at h2; cases h2
    refine ⟨h1, v, by rw [Lib.iterAt_other _ _ _ _ _ hne]; exact h2, ?_, h4⟩
    obtain ⟨r1, r2⟩ := h3
    refine ⟨r1, ?_⟩
    rcases r2 with r2 | ⟨g, cap, cur, hv, hg, hh, r⟩
    · exact Or.inl r2
    · have hne2 : g ≠ k := fun e => by rw [e, hk] at hh; cases hh
      exact Or.inr ⟨g, cap, cur, hv, hg, by rw [Lib.iterAt_other _ _ _ _ _ hne2]; exact hh, r⟩
  exact h.imp (key _) (key _)
theorem iter_next {w w1 : World} {k : Nat} {s : ByteArray} {pos : Nat} (h : w.heap[k]? = some (.stringIter s pos)) (hb : Below w.heap.size w w1) : w1.heap[k]? = some (.stringIter s pos) := box_next h hb

/-- What text answers. -/
def TextR (A : Nat → Addr) (Q : Nat × Nat × List UInt8) (w : World) (e : Ending) (w' : World) : Prop :=
  if Q.1 = 0 then e = .returned (.tuple #[.string ⟨Q.2.2.toArray⟩, .int .i64 (Q.2.1 : Int), .nilIface])
  else ∃ g, w.heap.size ≤ g ∧ e = .returned (.tuple #[.string ⟨#[]⟩, .int .i64 0, .iface 69 (.pointer (some ⟨g, 0, none⟩))]) ∧ AtB (Q.2.1 : Int) (.iface 237 (.pointer (some (A Q.1)))) g w'
theorem textR_ok {A : Nat → Addr} {Q : Nat × Nat × List UInt8} {i : Nat} {l : List UInt8} {w w' : World} {e : Ending} (h : Q = (0, i, l)) : TextR A Q w e w' ↔ e = .returned (.tuple #[.string ⟨l.toArray⟩, .int .i64 (i : Int), .nilIface]) := by
  subst h; unfold TextR; rw [if_pos rfl]
theorem textR_bad {A : Nat → Addr} {Q : Nat × Nat × List UInt8} {k i : Nat} {l : List UInt8} {w w' : World} {e : Ending} (h : Q = (k + 1, i, l)) : TextR A Q w e w' ↔
    ∃ g, w.heap.size ≤ g ∧ e = .returned (.tuple #[.string ⟨#[]⟩, .int .i64 0, .iface 69 (.pointer (some ⟨g, 0, none⟩))]) ∧ AtB (i : Int) (.iface 237 (.pointer (some (A (k + 1))))) g w' := by
  subst h; unfold TextR; rw [if_neg (by simp)]
/-- Where the loop stands: the rune's place, what has come, the place up to which to go by. -/
def TextRel (s : ByteArray) (a : Nat) (Q : Nat × Nat × List UInt8) (pos next : Nat) (acc : List UInt8) : Prop :=
  a + pos ≤ s.size ∧ next ≤ s.size + 1 ∧ acc.length ≤ 4 * pos ∧ brkAt s (a + pos) = s.size ∧ ((next ≤ a + pos ∧ Q = qAt s (a + pos) acc) ∨ (a + pos < next ∧ next ≤ s.size ∧ Q = qAt s next acc ∧ ∀ j, a + pos + j < next → bAt s (a + pos + j) < 128))
theorem encodeRune_len (r : Int) : (Lib.encodeRune r).length ≤ 4 := by
  unfold Lib.encodeRune
  rw [List.length_map]
  exact (Lib.encodeRuneZ_length r).2
theorem rel_skip {s : ByteArray} {a : Nat} {Q : Nat × Nat × List UInt8} {pos next m : Nat} {acc : List UInt8} (h : TextRel s a Q pos next acc) (hq : a + pos < s.size) (hm : (refAt s (a + pos)).2 = m) (hsk : a + pos < next) : TextRel s a Q (pos + m) next acc := by
  obtain ⟨h1, h2, h3, h4, h5 | ⟨h5, h6, h7, h8⟩⟩ := h
  · omega
  · obtain ⟨hw0, hbn⟩ := brk_next hq h4
    have hb0 := h8 0 (by omega)
    obtain ⟨_, _, _, hw1, ⟨hw2, _, _⟩ | ⟨_, _, hw2⟩⟩ := rune_cases hq hw0
    · rw [hw2] at hm hbn
      subst hm
      refine ⟨by omega, h2, by omega, by rw [← Nat.add_assoc]; exact hbn, ?_⟩
      by_cases he : a + (pos + 1) = next
      · exact Or.inl ⟨by omega, by rw [he]; exact h7⟩
      · exact Or.inr ⟨by omega, h6, h7, fun j hj => by
          have := h8 (j + 1) (by omega)
          rw [show a + (pos + 1) + j = a + pos + (j + 1) by omega]; exact this⟩
    · have := hw2 0 (by omega)
      omega
theorem rel_rune {s : ByteArray} {a : Nat} {Q : Nat × Nat × List UInt8} {pos next r m : Nat} {acc : List UInt8} (h : TextRel s a Q pos next acc) (hq : a + pos < s.size) (hr : (refAt s (a + pos)).1 = r) (hm : (refAt s (a + pos)).2 = m) (hsk : ¬ a + pos < next)
    (h34 : r ≠ 34) (h32 : 32 ≤ r) (h92 : r ≠ 92) : TextRel s a Q (pos + m) (a + pos + 1) (acc ++ Lib.encodeRune (r : Int)) := by
  obtain ⟨h1, h2, h3, h4, ⟨h5, h6⟩ | ⟨h5, _⟩⟩ := h
  · obtain ⟨hw0, hbn⟩ := brk_next hq h4
    obtain ⟨_, _, _, hw1, hw2⟩ := rune_cases hq hw0
    have hk := qAt_rune acc hq hw0 (by rw [hr]; exact h34) (by rw [hr]; exact h32) (by rw [hr]; exact h92)
    have hl := encodeRune_len (r : Int)
    rw [hm] at hbn hw1 hk
    rw [hr] at hk
    refine ⟨by omega, by omega, by rw [List.length_append]; omega, by rw [← Nat.add_assoc]; exact hbn, Or.inl ⟨by omega, ?_⟩⟩
    rw [h6, hk, Nat.add_assoc]
  · omega
theorem rel_esc {s : ByteArray} {a : Nat} {Q : Nat × Nat × List UInt8} {pos next : Nat} {acc : List UInt8} (h : TextRel s a Q pos next acc) (hq : a + pos < s.size) (hsk : ¬ a + pos < next) (h92 : bAt s (a + pos) = 92) (he : (escAt s (a + pos)).1 = 0) :
    TextRel s a Q (pos + 1) (a + pos + (escAt s (a + pos)).2.2) (acc ++ Lib.encodeRune ((escAt s (a + pos)).2.1 : Int)) := by
  obtain ⟨h1, h2, h3, h4, ⟨h5, h6⟩ | ⟨h5, _⟩⟩ := h
  · have hb := brk_ascii h4 hq (by omega)
    have ho := escAt_ok h92 he
    have hl := encodeRune_len ((escAt s (a + pos)).2.1 : Int)
    refine ⟨by omega, by omega, by rw [List.length_append]; omega, hb, Or.inr ⟨by omega, ho.1, ?_, fun j hj => ?_⟩⟩
    · rw [h6, qAt_eq, if_pos hq, if_neg (by omega), if_neg (by omega), if_pos h92, if_pos he, encodeRune_enc ho.2.2.2.1]
    · have := escAt_ascii h92 he (j + 1) (by omega)
      rw [show a + (pos + 1) + j = a + pos + (j + 1) by omega]; exact this
  · omega
theorem rel_at {s : ByteArray} {a : Nat} {Q : Nat × Nat × List UInt8} {pos next : Nat} {acc : List UInt8} (h : TextRel s a Q pos next acc) (hsk : ¬ a + pos < next) : Q = qAt s (a + pos) acc := by
  obtain ⟨_, _, _, _, ⟨_, h6⟩ | ⟨h5, _⟩⟩ := h
  · exact h6
  · omega
set_option maxHeartbeats 8000000 in
set_option maxRecDepth 100000 in
theorem text_calls {A : Nat → Addr} {B : Nat} (s : ByteArray) (p : Nat) (b : Nat) (w : World) (hE : Env A B SJ w) (hs : s.size ≤ 35184372088830) (hsc : ScB s (p : Int) b w) (hp : p < s.size) (hv : brkAt s (p + 1) = s.size) :
    Calls Tryz.prog 102 #[.pointer (some ⟨b, 0, none⟩)] w fun e w' => TextR A (qAt s (p + 1) []) w e w' ∧ Below w.heap.size w w' := by
  have x0 := hsc.s
  have x1 := hsc.at
  have hbl : b < w.heap.size := ltB hsc
  have hp' : (p : Int) + 1 ≤ (s.size : Int) := by omega
  have hs' : (s.size : Int) ≤ 35184372088830 := by omega
  obtain ⟨Q, hQ⟩ : ∃ Q, Q = qAt s (p + 1) [] := ⟨_, rfl⟩
  rw [← hQ]
  replace hQ := Lib.hid hQ
  replace hsc := Lib.hid hsc
  obtain ⟨t, ht⟩ : ∃ t, s.extract (p + 1) s.size = t := ⟨_, rfl⟩
  have hts : Hid (t.size = s.size - (p + 1)) := Lib.hid (by rw [← ht, ByteArray.size_extract]; omega)
  have hts2 : (t.size : Int) ≤ (s.size : Int) := by have := hts.out; omega
  go_enter Tryz.func102, Tryz.ntmps102
  go_wp2_with fail
  go_step3
  go_wp2_with fail
  go_step3
  go_wp2_with fail
  have hQ1 := hQ.out
  go_loopw [7] (fun v7 wr => ∃ (pos next : Nat) (acc : List UInt8), v7 = .int .i64 (next : Int) ∧ Hid (TextRel s (p + 1) Q pos next acc) ∧ Hid (BuIs w.heap.size w.heap.size (Lib.byteCells acc) wr ∧ wr.heap[w.heap.size + 1]? = some (.stringIter t pos)) ∧ Below w.heap.size w wr) (fun _ wr => t.size - wr.iterPos (w.heap.size + 1))
  case atStart =>
    refine ⟨0, p + 1, [], by go_num, Lib.hid ⟨by omega, by omega, by simp, by simpa using hv, Or.inl ⟨by omega, by simpa using hQ1⟩⟩, Lib.hid ⟨?_, ?_⟩, ?_⟩
    · have h0 := Lib.fresh_isBuilder 214 5 w
      exact BuIs.next h0 (balloc (Below.refl _ _))
    · have := World.iter_heap (w.alloc (.cells #[.pointer none, .slice none 0 0] 214)) t 0
      simpa using this
    · exact balloc (balloc (Below.refl _ _))
  case round =>
    obtain ⟨pos, next, acc, rfl, HR, HB, hb⟩ := hrel
    obtain ⟨hr1, hr2, hr3, hr4, hr5⟩ := HR.out
    obtain ⟨hI, hit⟩ := HB.out
    have hts1 := hts.out
    have hsz : w.heap.size + 1 < wr.heap.size := ltB hit
    have hsc1 := hsc.out.next hb
    have y0 := hsc1.s
    by_cases hq : pos < t.size
    · have hq' : p + 1 + pos < s.size := by omega
      obtain ⟨hw0, hbn⟩ := brk_next hq' hr4
      obtain ⟨hsn, _, _, hw1, hw2⟩ := rune_cases hq' hw0
      have hdec : Utf8.decode t pos = refAt s (p + 1 + pos) := by rw [← ht]; exact rune_dec hq' hw0
      have h34 := rune_byte hq' hw0 34 (by decide)
      have h92 := rune_byte hq' hw0 92 (by decide)
      have h32 := rune_low hq' hw0
      have hnx : ∀ ty, (Instr.next (.pointer (some ⟨w.heap.size + 1, 0, none⟩)) true ty).run Tryz.prog wr = _ := fun ty => Lib.run_next_any_at wr (w.heap.size + 1) t pos ty hit hq
      rw [hdec] at hnx
      have hrl := scalarN_le hsn
      obtain ⟨r, hr⟩ : ∃ r, (refAt s (p + 1 + pos)).1 = r := ⟨_, rfl⟩
      obtain ⟨m, hm⟩ : ∃ m, (refAt s (p + 1 + pos)).2 = m := ⟨_, rfl⟩
      rw [hr, hm] at hnx
      rw [hr] at hrl h34 h92 h32
      rw [hm] at hw1
      replace hr := Lib.hid hr
      obtain ⟨W2, hW2⟩ : ∃ W2, W2 = wr.iterAt (w.heap.size + 1) t (pos + m) := ⟨_, rfl⟩
      rw [← hW2] at hnx
      have hI2 : BuIs w.heap.size w.heap.size (Lib.byteCells acc) W2 := by rw [hW2]; exact hI.iterAt hit _
      have hit2 : W2.heap[w.heap.size + 1]? = some (.stringIter t (pos + m)) := by rw [hW2]; exact Lib.iterAt_heap wr _ t pos _ hit
      have hb2 : Below w.heap.size w W2 := by rw [hW2]; exact Lib.below_iterAt hb (by omega) t _
      have hz2 : w.heap.size + 1 < W2.heap.size := ltB hit2
      have hm1 : 1 ≤ m := by
        rw [hm] at hw2; omega
      have hmu : ∀ W3 : World, W3.heap[w.heap.size + 1]? = some (.stringIter t (pos + m)) → t.size - W3.iterPos (w.heap.size + 1) < t.size - wr.iterPos (w.heap.size + 1) := by
        intro W3 h3
        simp only [World.iterPos, hit, h3]; omega
      have hlb : (Lib.byteCells acc).length + 4 ≤ 140737488355328 := by rw [Lib.byteCells_length]; omega
      replace hm := Lib.hid hm
      replace hmu := Lib.hid hmu
      replace hit2 := Lib.hid hit2
      replace hI2 := Lib.hid hI2
      replace h34 := Lib.hid h34
      replace h92 := Lib.hid h92
      replace h32 := Lib.hid h32
      replace hlb := Lib.hid hlb
      replace hts1 := Lib.hid hts1
      replace ht := Lib.hid ht
      have hq2 := Lib.hid hq'
      have hsc2 := Lib.hid (hsc.out.next hb2)
      have z0 := hsc2.out.s
      clear hW2 hb hsz HB hI hit hr1 hr2 hr3 hr4 hr5 hsn hw2 hbn hw0 hdec hsc1 y0 hm1
      by_cases hsk : p + 1 + pos < next
      · have hsk' : (p : Int) + 1 + (pos : Int) < (next : Int) := by omega
        replace hsk := Lib.hid hsk
        go_wp2_with fail
        go_roundw
        case rel => exact ⟨pos + m, next, acc, rfl, Lib.hid (rel_skip HR.out hq2.out hm.out hsk.out), Lib.hid ⟨hI2.out, hit2.out⟩, hb2⟩
        case measure => exact hmu.out _ hit2.out
      · have hsk' : (next : Int) ≤ (p : Int) + 1 + (pos : Int) := by omega
        have hQe := Lib.hid (rel_at HR.out hsk)
        replace hsk := Lib.hid hsk
        have e2 := (hE.next hb2).e2
        by_cases c34 : r = 34
        · subst c34
          have hNe : Q = (0, p + 1 + pos + 1, acc) := by rw [hQe.out, qAt_eq, if_pos hq2.out, if_pos (h34.out.1 rfl)]
          replace hNe := Lib.hid hNe
          go_wp2_with fail
          refine (Tryz.Builder_String_any_k w.heap.size w.heap.size acc _ (Lib.IsBuilderF.of hI2.out) (by omega)).mono ?_
          rintro e w3 ⟨rfl, _, b3, _⟩
          go_wp2_with fail
          (try simp only [Exit.inBlock, Exit.then])
          (try rw [Exit.noGoto_ret])
          go_ret3
          exact ⟨(textR_ok hNe.out).2 rfl, hb2.trans b3⟩
        have n34 : ((r : Int) == 34) = false := by simp; omega
        by_cases c32 : r < 32
        · have hNe : Q = (2, p + 1 + pos, []) := by
            have h1 : ¬ bAt s (p + 1 + pos) = 34 := fun h => c34 (h34.out.2 h)
            rw [hQe.out, qAt_eq, if_pos hq2.out, if_neg h1, if_pos (h32.out.1 c32)]
          have hNe := Lib.hid hNe
          replace c34 := Lib.hid c34
          have c32' : (r : Int) < 32 := by omega
          replace c32 := Lib.hid c32
          go_wp2_with fail
          refine (fault_calls _ _ _ _).mono ?_
          rintro e w3 ⟨g, hg, rfl, hat, hb3⟩
          have hb4 := bcall hb2 hb3
          go_wp2_with fail
          (try simp only [Exit.inBlock, Exit.then])
          (try rw [Exit.noGoto_ret])
          go_ret3
          exact ⟨(textR_bad hNe.out).2 ⟨g, by omega, rfl, hat⟩, hb4⟩
        have c32' : (32 : Int) ≤ (r : Int) := by omega
        have n32 : ¬ (r : Int) < 32 := by omega
        by_cases c92 : r = 92
        · subst c92
          have h92b := h92.out.1 rfl
          have hne : ∀ k, (escAt s (p + 1 + pos)).1 = k + 1 → Q = (k + 1, p + 1 + pos, []) := fun k hk => by
            rw [hQe.out, qAt_eq, if_pos hq2.out, if_neg (by omega), if_neg (by omega), if_pos h92b, if_neg (by omega), hk]
          have hro := fun h => rel_esc HR.out hq2.out hsk.out h92b h
          have hm1 : m = 1 := by
            have := hm.out
            obtain ⟨hw0, _⟩ := brk_next hq2.out HR.out.2.2.2.1
            obtain ⟨_, _, _, _, ⟨h1, _, _⟩ | ⟨_, _, h2⟩⟩ := rune_cases hq2.out hw0
            · omega
            · have := h2 0 (by omega)
              rw [Nat.add_zero] at this
              omega
          have hes := fun h => escAt_ok h92b h
          have E := fun w hE hsc => escape_calls (A := A) (B := B) s (p : Int) b (p + 1 + pos) w hE (Nat.le_trans hs (by decide)) hsc hq2.out
          generalize escAt s (p + 1 + pos) = X at *
          obtain ⟨k, x, n⟩ := X
          simp only at hne hro hes
          replace E := Lib.hid E
          replace hne := Lib.hid hne
          replace hro := Lib.hid hro
          replace hes := Lib.hid hes
          replace hm1 := Lib.hid hm1
          replace h92b := Lib.hid h92b
          clear c34 c32 n32
          go_wp2_with fail
          refine (E.out _ (hE.next hb2) hsc2.out).mono ?_
          rintro e w3 ⟨hr, hb3⟩
          cases k with
          | zero =>
            unfold EscR at hr
            rw [if_pos rfl] at hr
            unfold EscOk at hr
            simp only at hr
            subst hr
            have hb4 := bcall hb2 hb3
            have hz4 := hb3.size
            have hx := hes.out rfl
            have hx2 := scalarN_le hx.2.2.2.1
            replace hx := Lib.hid hx
            have Wr := Lib.hid (fun w h1 h2 => WriteRune_calls w.heap.size w.heap.size (Lib.byteCells acc) (x : Int) w (by omega) (by omega) h1 hlb.out h2)
            have hI3 := Lib.hid (hI2.out.next hb3)
            have hit3 := Lib.hid (iter_next hit2.out hb3)
            go_wp2_with fail
            refine (WriteRune_calls w.heap.size w.heap.size (Lib.byteCells acc) (x : Int) _ (by omega) (by omega) hI3.out hlb.out (by omega)).mono ?_
            rintro e w4 ⟨rfl, hI4, hb5, hk⟩
            have hit4 := hk.iter hit3.out (by omega)
            have hb6 := hb4.trans hb5
            replace hI4 := Lib.hid hI4
            replace hit4 := Lib.hid hit4
            replace hk := Lib.hid hk
            have hn12 : (n : Int) ≤ 12 := by have := hx.out; omega
            go_wp2_with fail
            go_roundw
            case rel => exact ⟨pos + m, p + 1 + pos + n, acc ++ Lib.encodeRune (x : Int), by go_num, Lib.hid (by rw [hm1.out]; exact hro.out (by trivial)), Lib.hid ⟨by rw [Lib.byteCells_append, Lib.byteCells_encodeRune]; exact hI4.out, hit4.out⟩, hb6⟩
            case measure => exact hmu.out _ hit4.out
          | succ k =>
            unfold EscR at hr
            rw [if_neg (by simp)] at hr
            obtain ⟨g, hg, rfl, hat⟩ := hr
            have hNe := Lib.hid (hne.out k rfl)
            have hb4 := bcall hb2 hb3
            go_wp2_with fail
            (try simp only [Exit.inBlock, Exit.then])
            (try rw [Exit.noGoto_ret])
            go_ret3
            exact ⟨(textR_bad hNe.out).2 ⟨g, by omega, rfl, hat⟩, hb4⟩
        · have n92 : ((r : Int) != 92) = true := by simp; omega
          have hro := Lib.hid (rel_rune HR.out hq2.out hr.out hm.out hsk.out c34 (by omega) c92)
          replace c34 := Lib.hid c34
          replace c32 := Lib.hid c32
          replace c92 := Lib.hid c92
          have hr1 : (r : Int) ≤ 1114111 := by omega
          go_wp2_with fail
          refine (WriteRune_calls w.heap.size w.heap.size (Lib.byteCells acc) (r : Int) _ (by omega) (by omega) hI2.out hlb.out (by omega)).mono ?_
          rintro e w4 ⟨rfl, hI4, hb5, hk⟩
          have hit4 := hk.iter hit2.out (by omega)
          have hb6 := hb2.trans hb5
          replace hI4 := Lib.hid hI4
          replace hit4 := Lib.hid hit4
          replace hk := Lib.hid hk
          go_wp2_with fail
          go_roundw
          case rel => exact ⟨pos + m, p + 1 + pos + 1, acc ++ Lib.encodeRune (r : Int), by go_num, hro, Lib.hid ⟨by rw [Lib.byteCells_append, Lib.byteCells_encodeRune]; exact hI4.out, hit4.out⟩, hb6⟩
          case measure => exact hmu.out _ hit4.out
    · have hnx : ∀ ty, (Instr.next (.pointer (some ⟨w.heap.size + 1, 0, none⟩)) true ty).run Tryz.prog wr = _ := fun ty => Lib.run_next_end_at wr (w.heap.size + 1) t pos ty hit hq
      have hNe : Q = (2, s.size, []) := by
        rcases hr5 with ⟨_, h6⟩ | ⟨h5, h6, _⟩
        · rw [h6, qAt_eq, if_neg (by omega)]
        · omega
      have e2 := (hE.next hb).e2
      have e2l := (hE.next hb).l2
      replace hNe := Lib.hid hNe
      replace hit := Lib.hid hit
      replace hI := Lib.hid hI
      replace hsc1 := Lib.hid hsc1
      clear hr1 hr2 hr3 hr4 hr5 HR HB hts1
      go_wp2_with fail
      go_region_held3 (fun w' => w'.cell? ⟨b, 0, none⟩ = some (.string s) ∧ w'.cell? ⟨0, 0, none⟩ = some (.iface 237 (.pointer (some (A 2))))) (go_keep) ((go_at_call 80; refine (fault_calls _ _ _ _).mono ?_; rintro e w3 ⟨g, hg, rfl, hat, hb3⟩; have hb4 : Below w.heap.size w w3 := bcall (by repeat (first | assumption | exact Below.refl _ _ | apply Below.drew | apply below_drewN | apply balloc | (refine Below.setCell ?_ (by first | omega | (simp <;> omega)) _))) hb3; have q1 := (hsc.out.next hb4).s; have q2 := (hE.next hb4).e2))
      all_goals
        have hsz3 := hb.size
        go_wp2_with fail
        (try simp only [Exit.inBlock, Exit.then])
        (try rw [Exit.noGoto_ret])
        go_ret3
        exact ⟨(textR_bad hNe.out).2 ⟨g, by first | omega | (simp at hg; omega), rfl, hat⟩, hb4⟩

end Go.Proofs.YtibopkodoidjoaaGreatDoor

/- Package scan: the walk of next. -/
namespace Go.Proofs.YtibopkodoidjoaaGreatDoor
open Go Go.RowKit

def tkV (t : Tk) : Value := .agg #[.int .i64 (t.kind : Int), .int .i64 (t.fr : Int), .int .i64 (t.to : Int), .string t.text]
/-- What next answers. -/
def NextBad (A : Nat → Addr) (k i : Nat) (w : World) (e : Ending) (w' : World) : Prop :=
  ∃ g, w.heap.size ≤ g ∧ e = .returned (.tuple #[.agg #[.int .i64 0, .int .i64 0, .int .i64 0, .string ⟨#[]⟩], .iface 69 (.pointer (some ⟨g, 0, none⟩))]) ∧ AtB (i : Int) (.iface 237 (.pointer (some (A k)))) g w'
def NextR (A : Nat → Addr) (O : Nat × Nat × Tk) (w : World) (e : Ending) (w' : World) : Prop := if O.1 = 0 then e = .returned (.tuple #[tkV O.2.2, .nilIface]) else NextBad A O.1 O.2.1 w e w'
theorem nextR_ok {A : Nat → Addr} {O : Nat × Nat × Tk} {t : Tk} {i : Nat} {w w' : World} {e : Ending} (h : O = (0, i, t)) : NextR A O w e w' ↔ e = .returned (.tuple #[tkV t, .nilIface]) := by
  subst h; unfold NextR; rw [if_pos rfl]
theorem nextR_bad {A : Nat → Addr} {O : Nat × Nat × Tk} {t : Tk} {k i : Nat} {w w' : World} {e : Ending} (h : O = (k + 1, i, t)) : NextR A O w e w' ↔ NextBad A (k + 1) i w e w' := by
  subst h; unfold NextR; rw [if_neg (by simp)]
set_option maxHeartbeats 2000000 in
set_option maxRecDepth 100000 in
theorem next_sign (s : ByteArray) (p b : Nat) (w : World) (hs : s.size ≤ 35184372088830) (hsc : ScB s (p : Int) b w) (hp : p < s.size) (hk : signK (bAt s p) ≠ 0) :
    Calls Tryz.prog 82 #[.pointer (some ⟨b, 0, none⟩)] w fun e w' => e = .returned (.tuple #[tkV ⟨signK (bAt s p), p, p + 1, noS⟩, .nilIface]) ∧ Below w.heap.size w w' := by
  have x0 := hsc.s
  have x1 := hsc.at
  have hbl : b < w.heap.size := ltB hsc
  have hx := byte_at s p
  have hp' : (p : Int) < (s.size : Int) := by omega
  have hs' : (s.size : Int) ≤ 35184372088830 := by omega
  replace hsc := Lib.hid hsc
  have O := fun w => one_calls (bAt s p) w
  generalize bAt s p = c at *
  generalize signK c = k at *
  have hk' : ((k : Int) != 0) = true := by simp; omega
  replace hk := Lib.hid hk
  replace O := Lib.hid O
  go_enter Tryz.func82, Tryz.ntmps82
  (go_wp2_with fail; repeat (any_goals (go_quiet (fail); go_wp2_with fail)))
  refine (O.out _).mono ?_
  rintro e w1 ⟨rfl, hw⟩
  have hb1 : Below w.heap.size w w1 := by rw [hw]; exact (by repeat (first | assumption | exact Below.refl _ _ | apply Below.drew | apply below_drewN | apply balloc | (refine Below.setCell ?_ (by first | omega | (simp <;> omega)) _)))
  have y0 : w1.cell? ⟨b, 0, none⟩ = some (.string s) := (hsc.out.next hb1).s
  have y1 := (hsc.out.next hb1).at
  have hv : w1.heap[w.heap.size]? = some (.cells #[.int .i64 0, .int .i64 0, .int .i64 0, .string ⟨#[]⟩] 59 (0, 0)) := by rw [hw]; exact heap_alloc_new w _
  have v0 := cellB hv 0 rfl
  have v1 := cellB hv 1 rfl
  have v2 := cellB hv 2 rfl
  have v3 := cellB hv 3 rfl
  have f0 := freeB hv 0
  have f1 := freeB hv 1
  have f2 := freeB hv 2
  have f3 := freeB hv 3
  have hvl := ltB hv
  replace hv := Lib.hid hv
  clear hw x0 x1
  (go_wp2_with fail; repeat (any_goals (go_quiet (fail); go_wp2_with fail)))
  refine bodyPost_ret (v := .tuple #[.agg #[.int .i64 (k : Int), .int .i64 (p : Int), .int .i64 ((p : Int) + 1), .string ⟨#[]⟩], .nilIface]) ?_ rfl ⟨?_, (by repeat (first | assumption | exact Below.refl _ _ | apply Below.drew | apply below_drewN | apply balloc | (refine Below.setCell ?_ (by first | omega | (simp <;> omega)) _)))⟩
  · simp [results, Tryz.results82, go_sem, *]
  show _ = Ending.returned (.tuple #[tkV ⟨k, p, p + 1, noS⟩, .nilIface])
  unfold tkV
  simp [noS]

set_option maxHeartbeats 2000000 in
set_option maxRecDepth 100000 in
theorem next_null (s : ByteArray) (p b : Nat) (w : World) (hs : s.size ≤ 35184372088830) (hsc : ScB s (p : Int) b w) (hp : p < s.size) (hc : bAt s p = 110) (hpf : Lib.hasPrefix (s.extract p s.size).data.toList [110, 117, 108, 108] = true) :
    Calls Tryz.prog 82 #[.pointer (some ⟨b, 0, none⟩)] w fun e w' => e = .returned (.tuple #[tkV ⟨1, p, p + 4, noS⟩, .nilIface]) ∧ Below w.heap.size w w' := by
  have x0 := hsc.s
  have x1 := hsc.at
  have hbl : b < w.heap.size := ltB hsc
  have hx := byte_at s p
  have hp' : (p : Int) < (s.size : Int) := by omega
  have hs' : (s.size : Int) ≤ 35184372088830 := by omega
  replace hsc := Lib.hid hsc
  have O := fun w => one_calls (bAt s p) w
  have W := fun w => word_calls (bAt s p) w
  rw [show signK (bAt s p) = 0 by rw [hc]; rfl] at O
  rw [show wordS (bAt s p) = ⟨#[110, 117, 108, 108]⟩ by rw [hc]; rfl, show wordK (bAt s p) = 1 by rw [hc]; rfl] at W
  have H := fun w => Tryz.strings_HasPrefix (s.extract p s.size) ⟨#[110, 117, 108, 108]⟩ w
  simp only [hpf] at H
  generalize bAt s p = c at *
  replace hc := Lib.hid hc
  replace hpf := Lib.hid hpf
  replace O := Lib.hid O
  replace W := Lib.hid W
  replace H := Lib.hid H
  go_enter Tryz.func82, Tryz.ntmps82
  (go_wp2_with fail; repeat (any_goals (go_quiet (fail); go_wp2_with fail)))
  refine (O.out _).mono ?_
  rintro e w1 ⟨rfl, hw⟩
  have hb1 : Below w.heap.size w w1 := by rw [hw]; exact (by repeat (first | assumption | exact Below.refl _ _ | apply Below.drew | apply below_drewN | apply balloc | (refine Below.setCell ?_ (by first | omega | (simp <;> omega)) _)))
  have y0 : w1.cell? ⟨b, 0, none⟩ = some (.string s) := (hsc.out.next hb1).s
  have y1 := (hsc.out.next hb1).at
  have hv : w1.heap[w.heap.size]? = some (.cells #[.int .i64 0, .int .i64 0, .int .i64 0, .string ⟨#[]⟩] 59 (0, 0)) := by rw [hw]; exact heap_alloc_new w _
  have v0 := cellB hv 0 rfl
  have v1 := cellB hv 1 rfl
  have v2 := cellB hv 2 rfl
  have v3 := cellB hv 3 rfl
  have f0 := freeB hv 0
  have f1 := freeB hv 1
  have f2 := freeB hv 2
  have f3 := freeB hv 3
  have hvl := ltB hv
  replace hv := Lib.hid hv
  clear hw x0 x1
  (go_wp2_with fail; repeat (any_goals (go_quiet (fail); go_wp2_with fail)))
  refine (W.out _).mono ?_
  rintro e w2 ⟨rfl, rfl⟩
  (go_wp2_with fail; repeat (any_goals (go_quiet (fail); go_wp2_with fail)))
  refine (H.out _).mono ?_
  rintro e w3 ⟨rfl, rfl⟩
  (go_wp2_with fail; repeat (any_goals (go_quiet (fail); go_wp2_with fail)))
  refine bodyPost_ret (v := .tuple #[.agg #[.int .i64 (1 : Int), .int .i64 (p : Int), .int .i64 ((p : Int) + 4), .string ⟨#[]⟩], .nilIface]) ?_ rfl ⟨?_, (by repeat (first | assumption | exact Below.refl _ _ | apply Below.drew | apply below_drewN | apply balloc | (refine Below.setCell ?_ (by first | omega | (simp <;> omega)) _)))⟩
  · simp [results, Tryz.results82, go_sem, *]
  unfold tkV
  simp [noS]
set_option maxHeartbeats 2000000 in
set_option maxRecDepth 100000 in
theorem next_true (s : ByteArray) (p b : Nat) (w : World) (hs : s.size ≤ 35184372088830) (hsc : ScB s (p : Int) b w) (hp : p < s.size) (hc : bAt s p = 116) (hpf : Lib.hasPrefix (s.extract p s.size).data.toList [116, 114, 117, 101] = true) :
    Calls Tryz.prog 82 #[.pointer (some ⟨b, 0, none⟩)] w fun e w' => e = .returned (.tuple #[tkV ⟨2, p, p + 4, noS⟩, .nilIface]) ∧ Below w.heap.size w w' := by
  have x0 := hsc.s
  have x1 := hsc.at
  have hbl : b < w.heap.size := ltB hsc
  have hx := byte_at s p
  have hp' : (p : Int) < (s.size : Int) := by omega
  have hs' : (s.size : Int) ≤ 35184372088830 := by omega
  replace hsc := Lib.hid hsc
  have O := fun w => one_calls (bAt s p) w
  have W := fun w => word_calls (bAt s p) w
  rw [show signK (bAt s p) = 0 by rw [hc]; rfl] at O
  rw [show wordS (bAt s p) = ⟨#[116, 114, 117, 101]⟩ by rw [hc]; rfl, show wordK (bAt s p) = 2 by rw [hc]; rfl] at W
  have H := fun w => Tryz.strings_HasPrefix (s.extract p s.size) ⟨#[116, 114, 117, 101]⟩ w
  simp only [hpf] at H
  generalize bAt s p = c at *
  replace hc := Lib.hid hc
  replace hpf := Lib.hid hpf
  replace O := Lib.hid O
  replace W := Lib.hid W
  replace H := Lib.hid H
  go_enter Tryz.func82, Tryz.ntmps82
  (go_wp2_with fail; repeat (any_goals (go_quiet (fail); go_wp2_with fail)))
  refine (O.out _).mono ?_
  rintro e w1 ⟨rfl, hw⟩
  have hb1 : Below w.heap.size w w1 := by rw [hw]; exact (by repeat (first | assumption | exact Below.refl _ _ | apply Below.drew | apply below_drewN | apply balloc | (refine Below.setCell ?_ (by first | omega | (simp <;> omega)) _)))
  have y0 : w1.cell? ⟨b, 0, none⟩ = some (.string s) := (hsc.out.next hb1).s
  have y1 := (hsc.out.next hb1).at
  have hv : w1.heap[w.heap.size]? = some (.cells #[.int .i64 0, .int .i64 0, .int .i64 0, .string ⟨#[]⟩] 59 (0, 0)) := by rw [hw]; exact heap_alloc_new w _
  have v0 := cellB hv 0 rfl
  have v1 := cellB hv 1 rfl
  have v2 := cellB hv 2 rfl
  have v3 := cellB hv 3 rfl
  have f0 := freeB hv 0
  have f1 := freeB hv 1
  have f2 := freeB hv 2
  have f3 := freeB hv 3
  have hvl := ltB hv
  replace hv := Lib.hid hv
  clear hw x0 x1
  (go_wp2_with fail; repeat (any_goals (go_quiet (fail); go_wp2_with fail)))
  refine (W.out _).mono ?_
  rintro e w2 ⟨rfl, rfl⟩
  (go_wp2_with fail; repeat (any_goals (go_quiet (fail); go_wp2_with fail)))
  refine (H.out _).mono ?_
  rintro e w3 ⟨rfl, rfl⟩
  (go_wp2_with fail; repeat (any_goals (go_quiet (fail); go_wp2_with fail)))
  refine bodyPost_ret (v := .tuple #[.agg #[.int .i64 (2 : Int), .int .i64 (p : Int), .int .i64 ((p : Int) + 4), .string ⟨#[]⟩], .nilIface]) ?_ rfl ⟨?_, (by repeat (first | assumption | exact Below.refl _ _ | apply Below.drew | apply below_drewN | apply balloc | (refine Below.setCell ?_ (by first | omega | (simp <;> omega)) _)))⟩
  · simp [results, Tryz.results82, go_sem, *]
  unfold tkV
  simp [noS]
set_option maxHeartbeats 2000000 in
set_option maxRecDepth 100000 in
theorem next_false (s : ByteArray) (p b : Nat) (w : World) (hs : s.size ≤ 35184372088830) (hsc : ScB s (p : Int) b w) (hp : p < s.size) (hc : bAt s p = 102) (hpf : Lib.hasPrefix (s.extract p s.size).data.toList [102, 97, 108, 115, 101] = true) :
    Calls Tryz.prog 82 #[.pointer (some ⟨b, 0, none⟩)] w fun e w' => e = .returned (.tuple #[tkV ⟨3, p, p + 5, noS⟩, .nilIface]) ∧ Below w.heap.size w w' := by
  have x0 := hsc.s
  have x1 := hsc.at
  have hbl : b < w.heap.size := ltB hsc
  have hx := byte_at s p
  have hp' : (p : Int) < (s.size : Int) := by omega
  have hs' : (s.size : Int) ≤ 35184372088830 := by omega
  replace hsc := Lib.hid hsc
  have O := fun w => one_calls (bAt s p) w
  have W := fun w => word_calls (bAt s p) w
  rw [show signK (bAt s p) = 0 by rw [hc]; rfl] at O
  rw [show wordS (bAt s p) = ⟨#[102, 97, 108, 115, 101]⟩ by rw [hc]; rfl, show wordK (bAt s p) = 3 by rw [hc]; rfl] at W
  have H := fun w => Tryz.strings_HasPrefix (s.extract p s.size) ⟨#[102, 97, 108, 115, 101]⟩ w
  simp only [hpf] at H
  generalize bAt s p = c at *
  replace hc := Lib.hid hc
  replace hpf := Lib.hid hpf
  replace O := Lib.hid O
  replace W := Lib.hid W
  replace H := Lib.hid H
  go_enter Tryz.func82, Tryz.ntmps82
  (go_wp2_with fail; repeat (any_goals (go_quiet (fail); go_wp2_with fail)))
  refine (O.out _).mono ?_
  rintro e w1 ⟨rfl, hw⟩
  have hb1 : Below w.heap.size w w1 := by rw [hw]; exact (by repeat (first | assumption | exact Below.refl _ _ | apply Below.drew | apply below_drewN | apply balloc | (refine Below.setCell ?_ (by first | omega | (simp <;> omega)) _)))
  have y0 : w1.cell? ⟨b, 0, none⟩ = some (.string s) := (hsc.out.next hb1).s
  have y1 := (hsc.out.next hb1).at
  have hv : w1.heap[w.heap.size]? = some (.cells #[.int .i64 0, .int .i64 0, .int .i64 0, .string ⟨#[]⟩] 59 (0, 0)) := by rw [hw]; exact heap_alloc_new w _
  have v0 := cellB hv 0 rfl
  have v1 := cellB hv 1 rfl
  have v2 := cellB hv 2 rfl
  have v3 := cellB hv 3 rfl
  have f0 := freeB hv 0
  have f1 := freeB hv 1
  have f2 := freeB hv 2
  have f3 := freeB hv 3
  have hvl := ltB hv
  replace hv := Lib.hid hv
  clear hw x0 x1
  (go_wp2_with fail; repeat (any_goals (go_quiet (fail); go_wp2_with fail)))
  refine (W.out _).mono ?_
  rintro e w2 ⟨rfl, rfl⟩
  (go_wp2_with fail; repeat (any_goals (go_quiet (fail); go_wp2_with fail)))
  refine (H.out _).mono ?_
  rintro e w3 ⟨rfl, rfl⟩
  (go_wp2_with fail; repeat (any_goals (go_quiet (fail); go_wp2_with fail)))
  refine bodyPost_ret (v := .tuple #[.agg #[.int .i64 (3 : Int), .int .i64 (p : Int), .int .i64 ((p : Int) + 5), .string ⟨#[]⟩], .nilIface]) ?_ rfl ⟨?_, (by repeat (first | assumption | exact Below.refl _ _ | apply Below.drew | apply below_drewN | apply balloc | (refine Below.setCell ?_ (by first | omega | (simp <;> omega)) _)))⟩
  · simp [results, Tryz.results82, go_sem, *]
  unfold tkV
  simp [noS]
set_option maxHeartbeats 2000000 in
set_option maxRecDepth 100000 in
theorem next_null_bad {A : Nat → Addr} {B : Nat} (s : ByteArray) (p b : Nat) (w : World) (hE : Env A B SJ w) (hs : s.size ≤ 35184372088830) (hsc : ScB s (p : Int) b w) (hp : p < s.size) (hc : bAt s p = 110) (hpf : Lib.hasPrefix (s.extract p s.size).data.toList [110, 117, 108, 108] = false) :
    Calls Tryz.prog 82 #[.pointer (some ⟨b, 0, none⟩)] w fun e w' => NextBad A 2 p w e w' ∧ Below w.heap.size w w' := by
  have x0 := hsc.s
  have x1 := hsc.at
  have hbl : b < w.heap.size := ltB hsc
  have hx := byte_at s p
  have hp' : (p : Int) < (s.size : Int) := by omega
  have hs' : (s.size : Int) ≤ 35184372088830 := by omega
  replace hsc := Lib.hid hsc
  have O := fun w => one_calls (bAt s p) w
  have W := fun w => word_calls (bAt s p) w
  rw [show signK (bAt s p) = 0 by rw [hc]; rfl] at O
  rw [show wordS (bAt s p) = ⟨#[110, 117, 108, 108]⟩ by rw [hc]; rfl, show wordK (bAt s p) = 1 by rw [hc]; rfl] at W
  have H := fun w => Tryz.strings_HasPrefix (s.extract p s.size) ⟨#[110, 117, 108, 108]⟩ w
  simp only [hpf] at H
  generalize bAt s p = c at *
  replace hc := Lib.hid hc
  replace hpf := Lib.hid hpf
  replace O := Lib.hid O
  replace W := Lib.hid W
  replace H := Lib.hid H
  go_enter Tryz.func82, Tryz.ntmps82
  (go_wp2_with fail; repeat (any_goals (go_quiet (fail); go_wp2_with fail)))
  refine (O.out _).mono ?_
  rintro e w1 ⟨rfl, hw⟩
  have hb1 : Below w.heap.size w w1 := by rw [hw]; exact (by repeat (first | assumption | exact Below.refl _ _ | apply Below.drew | apply below_drewN | apply balloc | (refine Below.setCell ?_ (by first | omega | (simp <;> omega)) _)))
  have y0 : w1.cell? ⟨b, 0, none⟩ = some (.string s) := (hsc.out.next hb1).s
  have y1 := (hsc.out.next hb1).at
  have hv : w1.heap[w.heap.size]? = some (.cells #[.int .i64 0, .int .i64 0, .int .i64 0, .string ⟨#[]⟩] 59 (0, 0)) := by rw [hw]; exact heap_alloc_new w _
  have v0 := cellB hv 0 rfl
  have v1 := cellB hv 1 rfl
  have v2 := cellB hv 2 rfl
  have v3 := cellB hv 3 rfl
  have f0 := freeB hv 0
  have f1 := freeB hv 1
  have f2 := freeB hv 2
  have f3 := freeB hv 3
  have hvl := ltB hv
  replace hv := Lib.hid hv
  clear hw x0 x1
  (go_wp2_with fail; repeat (any_goals (go_quiet (fail); go_wp2_with fail)))
  refine (W.out _).mono ?_
  rintro e w2 ⟨rfl, rfl⟩
  (go_wp2_with fail; repeat (any_goals (go_quiet (fail); go_wp2_with fail)))
  refine (H.out _).mono ?_
  rintro e w3 ⟨rfl, rfl⟩
  have e2 := (hE.next hb1).e2
  (go_wp2_with fail; repeat (any_goals (go_quiet (fail); go_wp2_with fail)))
  refine (fault_calls _ _ _ _).mono ?_
  rintro e w4 ⟨g, hg, rfl, hat, hb⟩
  have hg2 : w.heap.size + 1 ≤ g := Nat.le_trans hvl hg
  have hv2 := box_next hv.out hb
  have u0 := cellB hv2 0 rfl
  have u1 := cellB hv2 1 rfl
  have u2 := cellB hv2 2 rfl
  have u3 := cellB hv2 3 rfl
  have g0 := freeB hv2 0
  have g1 := freeB hv2 1
  have g2 := freeB hv2 2
  have g3 := freeB hv2 3
  have hvl2 := ltB hv2
  replace hv2 := Lib.hid hv2
  clear v0 v1 v2 v3 f0 f1 f2 f3 hvl
  replace hat := Lib.hid hat
  have hb4 : Below w.heap.size w w4 := bcall (by repeat (first | assumption | exact Below.refl _ _ | apply Below.drew | apply below_drewN | apply balloc | (refine Below.setCell ?_ (by first | omega | (simp <;> omega)) _))) hb
  clear hb
  (go_wp2_with fail; repeat (any_goals (go_quiet (fail); go_wp2_with fail)))
  refine bodyPost_ret (v := .tuple #[.agg #[.int .i64 0, .int .i64 0, .int .i64 0, .string ⟨#[]⟩], .iface 69 (.pointer (some ⟨g, 0, none⟩))]) ?_ rfl ⟨⟨g, by omega, rfl, ?_⟩, (by repeat (first | assumption | exact Below.refl _ _ | apply Below.drew | apply below_drewN | apply balloc | (refine Below.setCell ?_ (by first | omega | (simp <;> omega)) _)))⟩
  · simp [results, Tryz.results82, go_sem, *]
  · unfold AtB
    have := hat.out
    unfold AtB at this
    rw [Below.heap_setCell _ _ _ _ (by simp; omega), Below.heap_setCell _ _ _ _ (by simp; omega), Below.heap_setCell _ _ _ _ (by simp; omega), Below.heap_setCell _ _ _ _ (by simp; omega)]
    exact this
set_option maxHeartbeats 2000000 in
set_option maxRecDepth 100000 in
theorem next_true_bad {A : Nat → Addr} {B : Nat} (s : ByteArray) (p b : Nat) (w : World) (hE : Env A B SJ w) (hs : s.size ≤ 35184372088830) (hsc : ScB s (p : Int) b w) (hp : p < s.size) (hc : bAt s p = 116) (hpf : Lib.hasPrefix (s.extract p s.size).data.toList [116, 114, 117, 101] = false) :
    Calls Tryz.prog 82 #[.pointer (some ⟨b, 0, none⟩)] w fun e w' => NextBad A 2 p w e w' ∧ Below w.heap.size w w' := by
  have x0 := hsc.s
  have x1 := hsc.at
  have hbl : b < w.heap.size := ltB hsc
  have hx := byte_at s p
  have hp' : (p : Int) < (s.size : Int) := by omega
  have hs' : (s.size : Int) ≤ 35184372088830 := by omega
  replace hsc := Lib.hid hsc
  have O := fun w => one_calls (bAt s p) w
  have W := fun w => word_calls (bAt s p) w
  rw [show signK (bAt s p) = 0 by rw [hc]; rfl] at O
  rw [show wordS (bAt s p) = ⟨#[116, 114, 117, 101]⟩ by rw [hc]; rfl, show wordK (bAt s p) = 2 by rw [hc]; rfl] at W
  have H := fun w => Tryz.strings_HasPrefix (s.extract p s.size) ⟨#[116, 114, 117, 101]⟩ w
  simp only [hpf] at H
  generalize bAt s p = c at *
  replace hc := Lib.hid hc
  replace hpf := Lib.hid hpf
  replace O := Lib.hid O
  replace W := Lib.hid W
  replace H := Lib.hid H
  go_enter Tryz.func82, Tryz.ntmps82
  (go_wp2_with fail; repeat (any_goals (go_quiet (fail); go_wp2_with fail)))
  refine (O.out _).mono ?_
  rintro e w1 ⟨rfl, hw⟩
  have hb1 : Below w.heap.size w w1 := by rw [hw]; exact (by repeat (first | assumption | exact Below.refl _ _ | apply Below.drew | apply below_drewN | apply balloc | (refine Below.setCell ?_ (by first | omega | (simp <;> omega)) _)))
  have y0 : w1.cell? ⟨b, 0, none⟩ = some (.string s) := (hsc.out.next hb1).s
  have y1 := (hsc.out.next hb1).at
  have hv : w1.heap[w.heap.size]? = some (.cells #[.int .i64 0, .int .i64 0, .int .i64 0, .string ⟨#[]⟩] 59 (0, 0)) := by rw [hw]; exact heap_alloc_new w _
  have v0 := cellB hv 0 rfl
  have v1 := cellB hv 1 rfl
  have v2 := cellB hv 2 rfl
  have v3 := cellB hv 3 rfl
  have f0 := freeB hv 0
  have f1 := freeB hv 1
  have f2 := freeB hv 2
  have f3 := freeB hv 3
  have hvl := ltB hv
  replace hv := Lib.hid hv
  clear hw x0 x1
  (go_wp2_with fail; repeat (any_goals (go_quiet (fail); go_wp2_with fail)))
  refine (W.out _).mono ?_
  rintro e w2 ⟨rfl, rfl⟩
  (go_wp2_with fail; repeat (any_goals (go_quiet (fail); go_wp2_with fail)))
  refine (H.out _).mono ?_
  rintro e w3 ⟨rfl, rfl⟩
  have e2 := (hE.next hb1).e2
  (go_wp2_with fail; repeat (any_goals (go_quiet (fail); go_wp2_with fail)))
  refine (fault_calls _ _ _ _).mono ?_
  rintro e w4 ⟨g, hg, rfl, hat, hb⟩
  have hg2 : w.heap.size + 1 ≤ g := Nat.le_trans hvl hg
  have hv2 := box_next hv.out hb
  have u0 := cellB hv2 0 rfl
  have u1 := cellB hv2 1 rfl
  have u2 := cellB hv2 2 rfl
  have u3 := cellB hv2 3 rfl
  have g0 := freeB hv2 0
  have g1 := freeB hv2 1
  have g2 := freeB hv2 2
  have g3 := freeB hv2 3
  have hvl2 := ltB hv2
  replace hv2 := Lib.hid hv2
  clear v0 v1 v2 v3 f0 f1 f2 f3 hvl
  replace hat := Lib.hid hat
  have hb4 : Below w.heap.size w w4 := bcall (by repeat (first | assumption | exact Below.refl _ _ | apply Below.drew | apply below_drewN | apply balloc | (refine Below.setCell ?_ (by first | omega | (simp <;> omega)) _))) hb
  clear hb
  (go_wp2_with fail; repeat (any_goals (go_quiet (fail); go_wp2_with fail)))
  refine bodyPost_ret (v := .tuple #[.agg #[.int .i64 0, .int .i64 0, .int .i64 0, .string ⟨#[]⟩], .iface 69 (.pointer (some ⟨g, 0, none⟩))]) ?_ rfl ⟨⟨g, by omega, rfl, ?_⟩, (by repeat (first | assumption | exact Below.refl _ _ | apply Below.drew | apply below_drewN | apply balloc | (refine Below.setCell ?_ (by first | omega | (simp <;> omega)) _)))⟩
  · simp [results, Tryz.results82, go_sem, *]
  · unfold AtB
    have := hat.out
    unfold AtB at this
    rw [Below.heap_setCell _ _ _ _ (by simp; omega), Below.heap_setCell _ _ _ _ (by simp; omega), Below.heap_setCell _ _ _ _ (by simp; omega), Below.heap_setCell _ _ _ _ (by simp; omega)]
    exact this
set_option maxHeartbeats 2000000 in
set_option maxRecDepth 100000 in
theorem next_false_bad {A : Nat → Addr} {B : Nat} (s : ByteArray) (p b : Nat) (w : World) (hE : Env A B SJ w) (hs : s.size ≤ 35184372088830) (hsc : ScB s (p : Int) b w) (hp : p < s.size) (hc : bAt s p = 102) (hpf : Lib.hasPrefix (s.extract p s.size).data.toList [102, 97, 108, 115, 101] = false) :
    Calls Tryz.prog 82 #[.pointer (some ⟨b, 0, none⟩)] w fun e w' => NextBad A 2 p w e w' ∧ Below w.heap.size w w' := by
  have x0 := hsc.s
  have x1 := hsc.at
  have hbl : b < w.heap.size := ltB hsc
  have hx := byte_at s p
  have hp' : (p : Int) < (s.size : Int) := by omega
  have hs' : (s.size : Int) ≤ 35184372088830 := by omega
  replace hsc := Lib.hid hsc
  have O := fun w => one_calls (bAt s p) w
  have W := fun w => word_calls (bAt s p) w
  rw [show signK (bAt s p) = 0 by rw [hc]; rfl] at O
  rw [show wordS (bAt s p) = ⟨#[102, 97, 108, 115, 101]⟩ by rw [hc]; rfl, show wordK (bAt s p) = 3 by rw [hc]; rfl] at W
  have H := fun w => Tryz.strings_HasPrefix (s.extract p s.size) ⟨#[102, 97, 108, 115, 101]⟩ w
  simp only [hpf] at H
  generalize bAt s p = c at *
  replace hc := Lib.hid hc
  replace hpf := Lib.hid hpf
  replace O := Lib.hid O
  replace W := Lib.hid W
  replace H := Lib.hid H
  go_enter Tryz.func82, Tryz.ntmps82
  (go_wp2_with fail; repeat (any_goals (go_quiet (fail); go_wp2_with fail)))
  refine (O.out _).mono ?_
  rintro e w1 ⟨rfl, hw⟩
  have hb1 : Below w.heap.size w w1 := by rw [hw]; exact (by repeat (first | assumption | exact Below.refl _ _ | apply Below.drew | apply below_drewN | apply balloc | (refine Below.setCell ?_ (by first | omega | (simp <;> omega)) _)))
  have y0 : w1.cell? ⟨b, 0, none⟩ = some (.string s) := (hsc.out.next hb1).s
  have y1 := (hsc.out.next hb1).at
  have hv : w1.heap[w.heap.size]? = some (.cells #[.int .i64 0, .int .i64 0, .int .i64 0, .string ⟨#[]⟩] 59 (0, 0)) := by rw [hw]; exact heap_alloc_new w _
  have v0 := cellB hv 0 rfl
  have v1 := cellB hv 1 rfl
  have v2 := cellB hv 2 rfl
  have v3 := cellB hv 3 rfl
  have f0 := freeB hv 0
  have f1 := freeB hv 1
  have f2 := freeB hv 2
  have f3 := freeB hv 3
  have hvl := ltB hv
  replace hv := Lib.hid hv
  clear hw x0 x1
  (go_wp2_with fail; repeat (any_goals (go_quiet (fail); go_wp2_with fail)))
  refine (W.out _).mono ?_
  rintro e w2 ⟨rfl, rfl⟩
  (go_wp2_with fail; repeat (any_goals (go_quiet (fail); go_wp2_with fail)))
  refine (H.out _).mono ?_
  rintro e w3 ⟨rfl, rfl⟩
  have e2 := (hE.next hb1).e2
  (go_wp2_with fail; repeat (any_goals (go_quiet (fail); go_wp2_with fail)))
  refine (fault_calls _ _ _ _).mono ?_
  rintro e w4 ⟨g, hg, rfl, hat, hb⟩
  have hg2 : w.heap.size + 1 ≤ g := Nat.le_trans hvl hg
  have hv2 := box_next hv.out hb
  have u0 := cellB hv2 0 rfl
  have u1 := cellB hv2 1 rfl
  have u2 := cellB hv2 2 rfl
  have u3 := cellB hv2 3 rfl
  have g0 := freeB hv2 0
  have g1 := freeB hv2 1
  have g2 := freeB hv2 2
  have g3 := freeB hv2 3
  have hvl2 := ltB hv2
  replace hv2 := Lib.hid hv2
  clear v0 v1 v2 v3 f0 f1 f2 f3 hvl
  replace hat := Lib.hid hat
  have hb4 : Below w.heap.size w w4 := bcall (by repeat (first | assumption | exact Below.refl _ _ | apply Below.drew | apply below_drewN | apply balloc | (refine Below.setCell ?_ (by first | omega | (simp <;> omega)) _))) hb
  clear hb
  (go_wp2_with fail; repeat (any_goals (go_quiet (fail); go_wp2_with fail)))
  refine bodyPost_ret (v := .tuple #[.agg #[.int .i64 0, .int .i64 0, .int .i64 0, .string ⟨#[]⟩], .iface 69 (.pointer (some ⟨g, 0, none⟩))]) ?_ rfl ⟨⟨g, by omega, rfl, ?_⟩, (by repeat (first | assumption | exact Below.refl _ _ | apply Below.drew | apply below_drewN | apply balloc | (refine Below.setCell ?_ (by first | omega | (simp <;> omega)) _)))⟩
  · simp [results, Tryz.results82, go_sem, *]
  · unfold AtB
    have := hat.out
    unfold AtB at this
    rw [Below.heap_setCell _ _ _ _ (by simp; omega), Below.heap_setCell _ _ _ _ (by simp; omega), Below.heap_setCell _ _ _ _ (by simp; omega), Below.heap_setCell _ _ _ _ (by simp; omega)]
    exact this
set_option maxHeartbeats 2000000 in
set_option maxRecDepth 100000 in
theorem next_else {A : Nat → Addr} {B : Nat} (s : ByteArray) (p b : Nat) (w : World) (hE : Env A B SJ w) (hs : s.size ≤ 35184372088830) (hsc : ScB s (p : Int) b w) (hp : p < s.size) (hk : signK (bAt s p) = 0) (hw : bAt s p ≠ 110 ∧ bAt s p ≠ 116 ∧ bAt s p ≠ 102) (hn : bAt s p ≠ 45) (hd : isD (bAt s p) = false) (hq : bAt s p ≠ 34) :
    Calls Tryz.prog 82 #[.pointer (some ⟨b, 0, none⟩)] w fun e w' => NextBad A 2 p w e w' ∧ Below w.heap.size w w' := by
  have x0 := hsc.s
  have x1 := hsc.at
  have hbl : b < w.heap.size := ltB hsc
  have hx := byte_at s p
  have hp' : (p : Int) < (s.size : Int) := by omega
  have hs' : (s.size : Int) ≤ 35184372088830 := by omega
  replace hsc := Lib.hid hsc
  have O := fun w => one_calls (bAt s p) w
  have W := fun w => word_calls (bAt s p) w
  rw [hk] at O
  rw [show wordS (bAt s p) = ⟨#[]⟩ by unfold wordS; rw [if_neg (by omega), if_neg (by omega), if_neg (by omega)], show wordK (bAt s p) = 0 by unfold wordK; rw [if_neg (by omega), if_neg (by omega), if_neg (by omega)]] at W
  have D := fun w => digit_calls (bAt s p) w
  rw [hd] at D
  generalize bAt s p = c at *
  have c45 : ((c : Int) == 45) = false := by simp; omega
  have c34 : ((c : Int) == 34) = false := by simp; omega
  replace hk := Lib.hid hk
  replace hw := Lib.hid hw
  replace hn := Lib.hid hn
  replace hd := Lib.hid hd
  replace hq := Lib.hid hq
  replace O := Lib.hid O
  replace W := Lib.hid W
  replace D := Lib.hid D
  go_enter Tryz.func82, Tryz.ntmps82
  (go_wp2_with fail; repeat (any_goals (go_quiet (fail); go_wp2_with fail)))
  refine (O.out _).mono ?_
  rintro e w1 ⟨rfl, hw⟩
  have hb1 : Below w.heap.size w w1 := by rw [hw]; exact (by repeat (first | assumption | exact Below.refl _ _ | apply Below.drew | apply below_drewN | apply balloc | (refine Below.setCell ?_ (by first | omega | (simp <;> omega)) _)))
  have y0 : w1.cell? ⟨b, 0, none⟩ = some (.string s) := (hsc.out.next hb1).s
  have y1 := (hsc.out.next hb1).at
  have hv : w1.heap[w.heap.size]? = some (.cells #[.int .i64 0, .int .i64 0, .int .i64 0, .string ⟨#[]⟩] 59 (0, 0)) := by rw [hw]; exact heap_alloc_new w _
  have v0 := cellB hv 0 rfl
  have v1 := cellB hv 1 rfl
  have v2 := cellB hv 2 rfl
  have v3 := cellB hv 3 rfl
  have f0 := freeB hv 0
  have f1 := freeB hv 1
  have f2 := freeB hv 2
  have f3 := freeB hv 3
  have hvl := ltB hv
  replace hv := Lib.hid hv
  clear hw x0 x1
  (go_wp2_with fail; repeat (any_goals (go_quiet (fail); go_wp2_with fail)))
  refine (W.out _).mono ?_
  rintro e w2 ⟨rfl, rfl⟩
  (go_wp2_with fail; repeat (any_goals (go_quiet (fail); go_wp2_with fail)))
  refine (D.out _).mono ?_
  rintro e w3 ⟨rfl, rfl⟩
  have e2 := (hE.next hb1).e2
  (go_wp2_with fail; repeat (any_goals (go_quiet (fail); go_wp2_with fail)))
  refine (fault_calls _ _ _ _).mono ?_
  rintro e w4 ⟨g, hg, rfl, hat, hb⟩
  have hg2 : w.heap.size + 1 ≤ g := Nat.le_trans hvl hg
  have hv2 := box_next hv.out hb
  have u0 := cellB hv2 0 rfl
  have u1 := cellB hv2 1 rfl
  have u2 := cellB hv2 2 rfl
  have u3 := cellB hv2 3 rfl
  have g0 := freeB hv2 0
  have g1 := freeB hv2 1
  have g2 := freeB hv2 2
  have g3 := freeB hv2 3
  have hvl2 := ltB hv2
  replace hv2 := Lib.hid hv2
  clear v0 v1 v2 v3 f0 f1 f2 f3 hvl
  replace hat := Lib.hid hat
  have hb4 : Below w.heap.size w w4 := bcall (by repeat (first | assumption | exact Below.refl _ _ | apply Below.drew | apply below_drewN | apply balloc | (refine Below.setCell ?_ (by first | omega | (simp <;> omega)) _))) hb
  clear hb
  (go_wp2_with fail; repeat (any_goals (go_quiet (fail); go_wp2_with fail)))
  refine bodyPost_ret (v := .tuple #[.agg #[.int .i64 0, .int .i64 0, .int .i64 0, .string ⟨#[]⟩], .iface 69 (.pointer (some ⟨g, 0, none⟩))]) ?_ rfl ⟨⟨g, by omega, rfl, ?_⟩, (by repeat (first | assumption | exact Below.refl _ _ | apply Below.drew | apply below_drewN | apply balloc | (refine Below.setCell ?_ (by first | omega | (simp <;> omega)) _)))⟩
  · simp [results, Tryz.results82, go_sem, *]
  · unfold AtB
    have := hat.out
    unfold AtB at this
    rw [Below.heap_setCell _ _ _ _ (by simp; omega), Below.heap_setCell _ _ _ _ (by simp; omega), Below.heap_setCell _ _ _ _ (by simp; omega), Below.heap_setCell _ _ _ _ (by simp; omega)]
    exact this
end Go.Proofs.YtibopkodoidjoaaGreatDoor

/- The reference of chapter 17: one. -/
namespace Go.Proofs.YtibopkodoidjoaaGreatDoor
open Go Go.RowKit

/-- What one answers. -/
def rOneV (O : Nat × Nat × Tk) : Value := if O.1 = 0 then .tuple #[tkV O.2.2, .int .i64 0, .int .i64 0] else .tuple #[.agg #[.int .i64 0, .int .i64 0, .int .i64 0, .string ⟨#[]⟩], .int .i64 (O.1 : Int), .int .i64 (O.2.1 : Int)]
theorem rOneV_ok {O : Nat × Nat × Tk} {p : Nat} {T : Tk} (h : O = (0, p, T)) : rOneV O = .tuple #[tkV T, .int .i64 0, .int .i64 0] := by subst h; unfold rOneV; rw [if_pos rfl]
theorem rOneV_bad {O : Nat × Nat × Tk} {k p : Nat} {T : Tk} (h : O = (k + 1, p, T)) : rOneV O = .tuple #[.agg #[.int .i64 0, .int .i64 0, .int .i64 0, .string ⟨#[]⟩], .int .i64 ((k + 1 : Nat) : Int), .int .i64 (p : Int)] := by subst h; unfold rOneV; rw [if_neg (by simp)]
def signF (j : Nat) : Nat := match j with | 0 => 123 | 1 => 125 | 2 => 91 | 3 => 93 | 4 => 58 | _ => 44
def wordF (j : Nat) : ByteArray := match j with | 0 => ⟨#[110, 117, 108, 108]⟩ | 1 => ⟨#[116, 114, 117, 101]⟩ | _ => ⟨#[102, 97, 108, 115, 101]⟩
theorem one_sign {s : ByteArray} {i k : Nat} (h : signK (bAt s i) = k + 1) : oneAt s i = (0, 0, ⟨k + 1, i, i + 1, noS⟩) := by
  unfold oneAt; simp only; rw [if_pos (by omega), h]
theorem starts_null (s : ByteArray) (i : Nat) : startsS s i (wordF 0) = true ↔ bAt s i = 110 ∧ bAt s (i + 1) = 117 ∧ bAt s (i + 2) = 108 ∧ bAt s (i + 3) = 108 := by
  rw [startsS_iff]
  constructor
  · rintro ⟨_, h⟩
    exact ⟨h 0 (by decide), h 1 (by decide), h 2 (by decide), h 3 (by decide)⟩
  · rintro ⟨h0, h1, h2, h3⟩
    have := lt_of_bAt (s := s) (i := i + 3) (by omega)
    refine ⟨by show i + 4 ≤ s.size; omega, fun j hj => ?_⟩
    rcases (show j = 0 ∨ j = 1 ∨ j = 2 ∨ j = 3 by have : j < 4 := hj; omega) with rfl | rfl | rfl | rfl
    · exact h0
    · exact h1
    · exact h2
    · exact h3
theorem starts_true (s : ByteArray) (i : Nat) : startsS s i (wordF 1) = true ↔ bAt s i = 116 ∧ bAt s (i + 1) = 114 ∧ bAt s (i + 2) = 117 ∧ bAt s (i + 3) = 101 := by
  rw [startsS_iff]
  constructor
  · rintro ⟨_, h⟩
    exact ⟨h 0 (by decide), h 1 (by decide), h 2 (by decide), h 3 (by decide)⟩
  · rintro ⟨h0, h1, h2, h3⟩
    have := lt_of_bAt (s := s) (i := i + 3) (by omega)
    refine ⟨by show i + 4 ≤ s.size; omega, fun j hj => ?_⟩
    rcases (show j = 0 ∨ j = 1 ∨ j = 2 ∨ j = 3 by have : j < 4 := hj; omega) with rfl | rfl | rfl | rfl
    · exact h0
    · exact h1
    · exact h2
    · exact h3
theorem starts_false (s : ByteArray) (i : Nat) : startsS s i (wordF 2) = true ↔ bAt s i = 102 ∧ bAt s (i + 1) = 97 ∧ bAt s (i + 2) = 108 ∧ bAt s (i + 3) = 115 ∧ bAt s (i + 4) = 101 := by
  rw [startsS_iff]
  constructor
  · rintro ⟨_, h⟩
    exact ⟨h 0 (by decide), h 1 (by decide), h 2 (by decide), h 3 (by decide), h 4 (by decide)⟩
  · rintro ⟨h0, h1, h2, h3, h4⟩
    have := lt_of_bAt (s := s) (i := i + 4) (by omega)
    refine ⟨by show i + 5 ≤ s.size; omega, fun j hj => ?_⟩
    rcases (show j = 0 ∨ j = 1 ∨ j = 2 ∨ j = 3 ∨ j = 4 by have : j < 5 := hj; omega) with rfl | rfl | rfl | rfl | rfl
    · exact h0
    · exact h1
    · exact h2
    · exact h3
    · exact h4
theorem one_null {s : ByteArray} {i : Nat} (h : startsS s i (wordF 0) = true) : oneAt s i = (0, 0, ⟨1, i, i + 4, noS⟩) := by
  obtain ⟨h0, h1, h2, h3⟩ := (starts_null s i).1 h
  unfold oneAt; simp only; rw [h0, h1, h2, h3]; simp [signK]
theorem one_true {s : ByteArray} {i : Nat} (h : startsS s i (wordF 1) = true) : oneAt s i = (0, 0, ⟨2, i, i + 4, noS⟩) := by
  obtain ⟨h0, h1, h2, h3⟩ := (starts_true s i).1 h
  unfold oneAt; simp only; rw [h0, h1, h2, h3]; simp [signK]
theorem one_false {s : ByteArray} {i : Nat} (h : startsS s i (wordF 2) = true) : oneAt s i = (0, 0, ⟨3, i, i + 5, noS⟩) := by
  obtain ⟨h0, h1, h2, h3, h4⟩ := (starts_false s i).1 h
  unfold oneAt; simp only; rw [h0, h1, h2, h3, h4]; simp [signK]
theorem signK_none {c : Nat} (h : ∀ j, j < 6 → c ≠ signF j) : signK c = 0 := by
  have h0 : c ≠ 123 := h 0 (by omega)
  have h1 : c ≠ 125 := h 1 (by omega)
  have h2 : c ≠ 91 := h 2 (by omega)
  have h3 : c ≠ 93 := h 3 (by omega)
  have h4 : c ≠ 58 := h 4 (by omega)
  have h5 : c ≠ 44 := h 5 (by omega)
  unfold signK
  rw [if_neg h0, if_neg h1, if_neg h2, if_neg h3, if_neg h4, if_neg h5]
/-- Behind signs and words: a number, a text, or none. -/
theorem one_rest {s : ByteArray} {i : Nat} (hk : signK (bAt s i) = 0) (hw : ∀ j, j < 3 → startsS s i (wordF j) = false) : oneAt s i =
    if bAt s i = 45 ∨ isD (bAt s i) = true then (if (numAt s i).1 = true then (0, 0, ⟨4, i, (numAt s i).2, noS⟩) else (2, (numAt s i).2, ⟨0, 0, 0, noS⟩))
    else if bAt s i = 34 then (if (qAt s (i + 1) []).1 = 0 then (0, 0, ⟨5, i, (qAt s (i + 1) []).2.1, ⟨(qAt s (i + 1) []).2.2.toArray⟩⟩) else ((qAt s (i + 1) []).1, (qAt s (i + 1) []).2.1, ⟨0, 0, 0, noS⟩))
    else (2, i, ⟨0, 0, 0, noS⟩) := by
  have w0 : ¬ (startsS s i (wordF 0) = true) := by rw [hw 0 (by omega)]; simp
  have w1 : ¬ (startsS s i (wordF 1) = true) := by rw [hw 1 (by omega)]; simp
  have w2 : ¬ (startsS s i (wordF 2) = true) := by rw [hw 2 (by omega)]; simp
  rw [starts_null] at w0
  rw [starts_true] at w1
  rw [starts_false] at w2
  have nd : ∀ c, isD c = true → 48 ≤ c ∧ c ≤ 57 := fun c h => isD_iff.1 h
  unfold oneAt
  simp only
  rw [if_neg (by omega)]
  by_cases c1 : bAt s i = 110
  · rw [if_pos c1, if_neg (fun h => w0 ⟨c1, h⟩), if_neg (by rintro (h | h); omega; have := nd _ h; omega), if_neg (by omega)]
  rw [if_neg c1]
  by_cases c2 : bAt s i = 116
  · rw [if_pos c2, if_neg (fun h => w1 ⟨c2, h⟩), if_neg (by rintro (h | h); omega; have := nd _ h; omega), if_neg (by omega)]
  rw [if_neg c2]
  by_cases c3 : bAt s i = 102
  · rw [if_pos c3, if_neg (fun h => w2 ⟨c3, h⟩), if_neg (by rintro (h | h); omega; have := nd _ h; omega), if_neg (by omega)]
  rw [if_neg c3]
def tkZ : Obj := .cells #[.int .i64 0, .int .i64 0, .int .i64 0, .string ⟨#[]⟩] 59 (0, 0)
def kindsO : Obj := .cells #[.int .i64 6, .int .i64 7, .int .i64 8, .int .i64 9, .int .i64 10, .int .i64 11] 3 (0, 0)
def wordsO : Obj := .cells #[.string ⟨#[110, 117, 108, 108]⟩, .string ⟨#[116, 114, 117, 101]⟩, .string ⟨#[102, 97, 108, 115, 101]⟩] 9 (0, 0)
theorem rQuoted_calls2 (s : ByteArray) (i : Nat) (w : World) (hs : s.size ≤ 35184372088830) (hi : i < s.size) (R : Value) (hR : rQV (qAt s (i + 1) []) = R) :
    Calls Tryz.prog 79 #[.string s, .int .i64 (i : Int)] w fun e w' => e = .returned R ∧ Below w.heap.size w w' := by rw [← hR]; exact rQuoted_calls s i w hs hi
theorem rNumber_calls2 (s : ByteArray) (i : Nat) (w : World) (hs : s.size ≤ 35184372088830) (hi : i < s.size) (R : Value) (hR : rNumV (numAt s i) = R) :
    Calls Tryz.prog 78 #[.string s, .int .i64 (i : Int)] w fun e w' => e = .returned R ∧ w = w' := by rw [← hR]; exact rNumber_calls s i w (by omega) hi
theorem rDigit_calls2 (c : Nat) (b : Bool) (w : World) (h : isD c = b) : Calls Tryz.prog 77 #[.int .u8 (c : Int)] w fun e w' => e = .returned (.bool b) ∧ w = w' := by rw [← h]; exact rDigit_calls' c w
set_option maxHeartbeats 8000000 in
set_option maxRecDepth 100000 in
theorem rOne_calls (s : ByteArray) (i : Nat) (w : World) (hs : s.size ≤ 35184372088830) (hi : i < s.size) :
    Calls Tryz.prog 50 #[.string s, .int .i64 (i : Int)] w fun e w' => e = .returned (rOneV (oneAt s i)) ∧ Below w.heap.size w w' := by
  have hs' : (s.size : Int) ≤ 35184372088830 := by omega
  have hi' : (i : Int) < (s.size : Int) := by omega
  have hx := byte_at s i
  obtain ⟨O, hO⟩ : ∃ O, O = oneAt s i := ⟨_, rfl⟩
  rw [← hO]
  replace hO := Lib.hid hO
  replace hs := Lib.hid hs
  replace hi := Lib.hid hi
  go_enter Tryz.func50, Tryz.ntmps50
  (go_wp2_with fail; repeat (any_goals (go_quiet (fail); go_wp2_with fail)))
  go_loopw [9] (fun v wr => ∃ k : Nat, k ≤ 6 ∧ v = .int .i64 (k : Int) ∧ Hid (∀ j, j < k → bAt s i ≠ signF j) ∧ wr.heap[w.heap.size]? = some tkZ ∧ wr.heap[w.heap.size + 1]? = some kindsO ∧ Below w.heap.size w wr) (fun v _ => 6 - (intOf v).toNat)
  case atStart => exact ⟨0, by decide, rfl, Lib.hid (fun j hj => by omega), box_next (heap_alloc_new w _) (by repeat (first | assumption | exact Below.refl _ _ | apply Below.drew | apply below_drewN | apply balloc | (refine Below.setCell ?_ (by first | omega | (simp <;> omega)) _))), by (have h := heap_alloc_new (w.alloc tkZ) kindsO); rw [World.size_alloc] at h; exact h, (by repeat (first | assumption | exact Below.refl _ _ | apply Below.drew | apply below_drewN | apply balloc | (refine Below.setCell ?_ (by first | omega | (simp <;> omega)) _)))⟩
  case round =>
    obtain ⟨k, hk, rfl, hno, hv, hK, hB⟩ := hrel
    rcases (show k = 0 ∨ k = 1 ∨ k = 2 ∨ k = 3 ∨ k = 4 ∨ k = 5 ∨ k = 6 by omega) with rfl | rfl | rfl | rfl | rfl | rfl | rfl
    · have hf : ∀ h, (((⟨#[123, 125, 91, 93, 58, 44]⟩ : ByteArray)[0]'h).toNat : Int) = 123 := fun _ => rfl
      by_cases hm : bAt s i = 123
      · have hm' : ((bAt s i : Int) == 123) = true := by simp; omega
        have he := rOneV_ok (hO.out.trans (one_sign (s := s) (i := i) (k := 5) (by rw [hm]; rfl)))
        replace hm := Lib.hid hm
        replace he := Lib.hid he
        have x0 := cellB hv 0 rfl
        have x1 := cellB hv 1 rfl
        have x2 := cellB hv 2 rfl
        have x3 := cellB hv 3 rfl
        have f0 := freeB hv 0
        have f1 := freeB hv 1
        have f2 := freeB hv 2
        have f3 := freeB hv 3
        have hvl := ltB hv
        have k0 := cellB hK 0 rfl
        replace hv := Lib.hid hv
        replace hK := Lib.hid hK
        (go_wp2_with fail; repeat (any_goals (go_quiet (fail); go_wp2_with fail)))
        refine bodyPost_ret (v := .tuple #[.agg #[.int .i64 (5 + 1), .int .i64 (i : Int), .int .i64 ((i : Int) + 1), .string ⟨#[]⟩], .int .i64 0, .int .i64 0]) (by simp [results, Tryz.results50, go_sem, *]) rfl ⟨?_, (by repeat (first | assumption | exact Below.refl _ _ | apply Below.drew | apply below_drewN | apply balloc | (refine Below.setCell ?_ (by first | omega | (simp <;> omega)) _)))⟩
        rw [he.out]; rfl
      · have hm' : ((bAt s i : Int) == 123) = false := by simp; omega
        replace hm := Lib.hid hm
        replace hv := Lib.hid hv
        replace hK := Lib.hid hK
        (go_wp2_with fail; repeat (any_goals (go_quiet (fail); go_wp2_with fail)))
        go_roundw
        case rel => exact ⟨0 + 1, by omega, rfl, Lib.hid (fun j hj => by
          rcases (show j < 0 ∨ j = 0 by omega) with h | h
          · exact hno.out j h
          · subst h; exact hm.out), hv.out, hK.out, (by repeat (first | assumption | exact Below.refl _ _ | apply Below.drew | apply below_drewN | apply balloc | (refine Below.setCell ?_ (by first | omega | (simp <;> omega)) _)))⟩
        case measure => simp [intOf]
    · have hf : ∀ h, (((⟨#[123, 125, 91, 93, 58, 44]⟩ : ByteArray)[1]'h).toNat : Int) = 125 := fun _ => rfl
      by_cases hm : bAt s i = 125
      · have hm' : ((bAt s i : Int) == 125) = true := by simp; omega
        have he := rOneV_ok (hO.out.trans (one_sign (s := s) (i := i) (k := 6) (by rw [hm]; rfl)))
        replace hm := Lib.hid hm
        replace he := Lib.hid he
        have x0 := cellB hv 0 rfl
        have x1 := cellB hv 1 rfl
        have x2 := cellB hv 2 rfl
        have x3 := cellB hv 3 rfl
        have f0 := freeB hv 0
        have f1 := freeB hv 1
        have f2 := freeB hv 2
        have f3 := freeB hv 3
        have hvl := ltB hv
        have k0 := cellB hK 1 rfl
        replace hv := Lib.hid hv
        replace hK := Lib.hid hK
        (go_wp2_with fail; repeat (any_goals (go_quiet (fail); go_wp2_with fail)))
        refine bodyPost_ret (v := .tuple #[.agg #[.int .i64 (6 + 1), .int .i64 (i : Int), .int .i64 ((i : Int) + 1), .string ⟨#[]⟩], .int .i64 0, .int .i64 0]) (by simp [results, Tryz.results50, go_sem, *]) rfl ⟨?_, (by repeat (first | assumption | exact Below.refl _ _ | apply Below.drew | apply below_drewN | apply balloc | (refine Below.setCell ?_ (by first | omega | (simp <;> omega)) _)))⟩
        rw [he.out]; rfl
      · have hm' : ((bAt s i : Int) == 125) = false := by simp; omega
        replace hm := Lib.hid hm
        replace hv := Lib.hid hv
        replace hK := Lib.hid hK
        (go_wp2_with fail; repeat (any_goals (go_quiet (fail); go_wp2_with fail)))
        go_roundw
        case rel => exact ⟨1 + 1, by omega, rfl, Lib.hid (fun j hj => by
          rcases (show j < 1 ∨ j = 1 by omega) with h | h
          · exact hno.out j h
          · subst h; exact hm.out), hv.out, hK.out, (by repeat (first | assumption | exact Below.refl _ _ | apply Below.drew | apply below_drewN | apply balloc | (refine Below.setCell ?_ (by first | omega | (simp <;> omega)) _)))⟩
        case measure => simp [intOf]
    · have hf : ∀ h, (((⟨#[123, 125, 91, 93, 58, 44]⟩ : ByteArray)[2]'h).toNat : Int) = 91 := fun _ => rfl
      by_cases hm : bAt s i = 91
      · have hm' : ((bAt s i : Int) == 91) = true := by simp; omega
        have he := rOneV_ok (hO.out.trans (one_sign (s := s) (i := i) (k := 7) (by rw [hm]; rfl)))
        replace hm := Lib.hid hm
        replace he := Lib.hid he
        have x0 := cellB hv 0 rfl
        have x1 := cellB hv 1 rfl
        have x2 := cellB hv 2 rfl
        have x3 := cellB hv 3 rfl
        have f0 := freeB hv 0
        have f1 := freeB hv 1
        have f2 := freeB hv 2
        have f3 := freeB hv 3
        have hvl := ltB hv
        have k0 := cellB hK 2 rfl
        replace hv := Lib.hid hv
        replace hK := Lib.hid hK
        (go_wp2_with fail; repeat (any_goals (go_quiet (fail); go_wp2_with fail)))
        refine bodyPost_ret (v := .tuple #[.agg #[.int .i64 (7 + 1), .int .i64 (i : Int), .int .i64 ((i : Int) + 1), .string ⟨#[]⟩], .int .i64 0, .int .i64 0]) (by simp [results, Tryz.results50, go_sem, *]) rfl ⟨?_, (by repeat (first | assumption | exact Below.refl _ _ | apply Below.drew | apply below_drewN | apply balloc | (refine Below.setCell ?_ (by first | omega | (simp <;> omega)) _)))⟩
        rw [he.out]; rfl
      · have hm' : ((bAt s i : Int) == 91) = false := by simp; omega
        replace hm := Lib.hid hm
        replace hv := Lib.hid hv
        replace hK := Lib.hid hK
        (go_wp2_with fail; repeat (any_goals (go_quiet (fail); go_wp2_with fail)))
        go_roundw
        case rel => exact ⟨2 + 1, by omega, rfl, Lib.hid (fun j hj => by
          rcases (show j < 2 ∨ j = 2 by omega) with h | h
          · exact hno.out j h
          · subst h; exact hm.out), hv.out, hK.out, (by repeat (first | assumption | exact Below.refl _ _ | apply Below.drew | apply below_drewN | apply balloc | (refine Below.setCell ?_ (by first | omega | (simp <;> omega)) _)))⟩
        case measure => simp [intOf]
    · have hf : ∀ h, (((⟨#[123, 125, 91, 93, 58, 44]⟩ : ByteArray)[3]'h).toNat : Int) = 93 := fun _ => rfl
      by_cases hm : bAt s i = 93
      · have hm' : ((bAt s i : Int) == 93) = true := by simp; omega
        have he := rOneV_ok (hO.out.trans (one_sign (s := s) (i := i) (k := 8) (by rw [hm]; rfl)))
        replace hm := Lib.hid hm
        replace he := Lib.hid he
        have x0 := cellB hv 0 rfl
        have x1 := cellB hv 1 rfl
        have x2 := cellB hv 2 rfl
        have x3 := cellB hv 3 rfl
        have f0 := freeB hv 0
        have f1 := freeB hv 1
        have f2 := freeB hv 2
        have f3 := freeB hv 3
        have hvl := ltB hv
        have k0 := cellB hK 3 rfl
        replace hv := Lib.hid hv
        replace hK := Lib.hid hK
        (go_wp2_with fail; repeat (any_goals (go_quiet (fail); go_wp2_with fail)))
        refine bodyPost_ret (v := .tuple #[.agg #[.int .i64 (8 + 1), .int .i64 (i : Int), .int .i64 ((i : Int) + 1), .string ⟨#[]⟩], .int .i64 0, .int .i64 0]) (by simp [results, Tryz.results50, go_sem, *]) rfl ⟨?_, (by repeat (first | assumption | exact Below.refl _ _ | apply Below.drew | apply below_drewN | apply balloc | (refine Below.setCell ?_ (by first | omega | (simp <;> omega)) _)))⟩
        rw [he.out]; rfl
      · have hm' : ((bAt s i : Int) == 93) = false := by simp; omega
        replace hm := Lib.hid hm
        replace hv := Lib.hid hv
        replace hK := Lib.hid hK
        (go_wp2_with fail; repeat (any_goals (go_quiet (fail); go_wp2_with fail)))
        go_roundw
        case rel => exact ⟨3 + 1, by omega, rfl, Lib.hid (fun j hj => by
          rcases (show j < 3 ∨ j = 3 by omega) with h | h
          · exact hno.out j h
          · subst h; exact hm.out), hv.out, hK.out, (by repeat (first | assumption | exact Below.refl _ _ | apply Below.drew | apply below_drewN | apply balloc | (refine Below.setCell ?_ (by first | omega | (simp <;> omega)) _)))⟩
        case measure => simp [intOf]
    · have hf : ∀ h, (((⟨#[123, 125, 91, 93, 58, 44]⟩ : ByteArray)[4]'h).toNat : Int) = 58 := fun _ => rfl
      by_cases hm : bAt s i = 58
      · have hm' : ((bAt s i : Int) == 58) = true := by simp; omega
        have he := rOneV_ok (hO.out.trans (one_sign (s := s) (i := i) (k := 9) (by rw [hm]; rfl)))
        replace hm := Lib.hid hm
        replace he := Lib.hid he
        have x0 := cellB hv 0 rfl
        have x1 := cellB hv 1 rfl
        have x2 := cellB hv 2 rfl
        have x3 := cellB hv 3 rfl
        have f0 := freeB hv 0
        have f1 := freeB hv 1
        have f2 := freeB hv 2
        have f3 := freeB hv 3
        have hvl := ltB hv
        have k0 := cellB hK 4 rfl
        replace hv := Lib.hid hv
        replace hK := Lib.hid hK
        (go_wp2_with fail; repeat (any_goals (go_quiet (fail); go_wp2_with fail)))
        refine bodyPost_ret (v := .tuple #[.agg #[.int .i64 (9 + 1), .int .i64 (i : Int), .int .i64 ((i : Int) + 1), .string ⟨#[]⟩], .int .i64 0, .int .i64 0]) (by simp [results, Tryz.results50, go_sem, *]) rfl ⟨?_, (by repeat (first | assumption | exact Below.refl _ _ | apply Below.drew | apply below_drewN | apply balloc | (refine Below.setCell ?_ (by first | omega | (simp <;> omega)) _)))⟩
        rw [he.out]; rfl
      · have hm' : ((bAt s i : Int) == 58) = false := by simp; omega
        replace hm := Lib.hid hm
        replace hv := Lib.hid hv
        replace hK := Lib.hid hK
        (go_wp2_with fail; repeat (any_goals (go_quiet (fail); go_wp2_with fail)))
        go_roundw
        case rel => exact ⟨4 + 1, by omega, rfl, Lib.hid (fun j hj => by
          rcases (show j < 4 ∨ j = 4 by omega) with h | h
          · exact hno.out j h
          · subst h; exact hm.out), hv.out, hK.out, (by repeat (first | assumption | exact Below.refl _ _ | apply Below.drew | apply below_drewN | apply balloc | (refine Below.setCell ?_ (by first | omega | (simp <;> omega)) _)))⟩
        case measure => simp [intOf]
    · have hf : ∀ h, (((⟨#[123, 125, 91, 93, 58, 44]⟩ : ByteArray)[5]'h).toNat : Int) = 44 := fun _ => rfl
      by_cases hm : bAt s i = 44
      · have hm' : ((bAt s i : Int) == 44) = true := by simp; omega
        have he := rOneV_ok (hO.out.trans (one_sign (s := s) (i := i) (k := 10) (by rw [hm]; rfl)))
        replace hm := Lib.hid hm
        replace he := Lib.hid he
        have x0 := cellB hv 0 rfl
        have x1 := cellB hv 1 rfl
        have x2 := cellB hv 2 rfl
        have x3 := cellB hv 3 rfl
        have f0 := freeB hv 0
        have f1 := freeB hv 1
        have f2 := freeB hv 2
        have f3 := freeB hv 3
        have hvl := ltB hv
        have k0 := cellB hK 5 rfl
        replace hv := Lib.hid hv
        replace hK := Lib.hid hK
        (go_wp2_with fail; repeat (any_goals (go_quiet (fail); go_wp2_with fail)))
        refine bodyPost_ret (v := .tuple #[.agg #[.int .i64 (10 + 1), .int .i64 (i : Int), .int .i64 ((i : Int) + 1), .string ⟨#[]⟩], .int .i64 0, .int .i64 0]) (by simp [results, Tryz.results50, go_sem, *]) rfl ⟨?_, (by repeat (first | assumption | exact Below.refl _ _ | apply Below.drew | apply below_drewN | apply balloc | (refine Below.setCell ?_ (by first | omega | (simp <;> omega)) _)))⟩
        rw [he.out]; rfl
      · have hm' : ((bAt s i : Int) == 44) = false := by simp; omega
        replace hm := Lib.hid hm
        replace hv := Lib.hid hv
        replace hK := Lib.hid hK
        (go_wp2_with fail; repeat (any_goals (go_quiet (fail); go_wp2_with fail)))
        go_roundw
        case rel => exact ⟨5 + 1, by omega, rfl, Lib.hid (fun j hj => by
          rcases (show j < 5 ∨ j = 5 by omega) with h | h
          · exact hno.out j h
          · subst h; exact hm.out), hv.out, hK.out, (by repeat (first | assumption | exact Below.refl _ _ | apply Below.drew | apply below_drewN | apply balloc | (refine Below.setCell ?_ (by first | omega | (simp <;> omega)) _)))⟩
        case measure => simp [intOf]
    · have hk0 := Lib.hid (signK_none hno.out)
      clear hno hK hk
      replace hv := Lib.hid hv
      obtain ⟨wo, rfl⟩ : ∃ wo : World, wo = wr := ⟨_, rfl⟩
      have hz0 := hB.size
      have hvl0 := ltB hv.out
      rw [show ((6 : Nat) : Int) = 6 from rfl]
      (go_wp2_with fail; repeat (any_goals (go_quiet (fail); go_wp2_with fail)))
      go_loopw [11] (fun v wx => ∃ k : Nat, k ≤ 3 ∧ v = .int .i64 (k : Int) ∧ Hid (∀ j, j < k → startsS s i (wordF j) = false) ∧ wx.heap[w.heap.size]? = some tkZ ∧ wx.heap[wo.heap.size]? = some wordsO ∧ Below w.heap.size w wx) (fun v _ => 3 - (intOf v).toNat)
      case atStart => exact ⟨0, by decide, rfl, Lib.hid (fun j hj => by omega), box_next hv.out (by repeat (first | assumption | exact Below.refl _ _ | apply Below.drew | apply below_drewN | apply balloc | (refine Below.setCell ?_ (by first | omega | (simp <;> omega)) _))), heap_alloc_new wo _, (by repeat (first | assumption | exact Below.refl _ _ | apply Below.drew | apply below_drewN | apply balloc | (refine Below.setCell ?_ (by first | omega | (simp <;> omega)) _)))⟩
      case round =>
        clear hv hB hz0 hvl0
        obtain ⟨k, hk, rfl, hno, hv, hK, hB⟩ := hrel
        rcases (show k = 0 ∨ k = 1 ∨ k = 2 ∨ k = 3 by omega) with rfl | rfl | rfl | rfl
        · have kw : wr.cell? ⟨wo.heap.size, 0, none⟩ = some (.string ⟨#[110, 117, 108, 108]⟩) := cellB hK 0 rfl
          have D := Lib.hid (fun w => starts_calls' s i (wordF 0) w (by have := hs.out; omega) (by decide) (by have := hs.out; have := hi.out; omega))
          cases hm : startsS s i (wordF 0) with
          | true =>
            have he := rOneV_ok (hO.out.trans (one_null hm))
            replace D : Hid (∀ w, Calls Tryz.prog 76 #[.string s, .int .i64 (i : Int), .string ⟨#[110, 117, 108, 108]⟩] w fun e w' => e = .returned (.bool true) ∧ w = w') := Lib.hid (fun w => by have := D.out w; rw [hm] at this; exact this)
            replace hm := Lib.hid hm
            replace he := Lib.hid he
            have x0 := cellB hv 0 rfl
            have x1 := cellB hv 1 rfl
            have x2 := cellB hv 2 rfl
            have x3 := cellB hv 3 rfl
            have f0 := freeB hv 0
            have f1 := freeB hv 1
            have f2 := freeB hv 2
            have f3 := freeB hv 3
            have hvl := ltB hv
            replace hv := Lib.hid hv
            replace hK := Lib.hid hK
            (go_wp2_with fail; repeat (any_goals (go_quiet (fail); go_wp2_with fail)))
            refine (D.out _).mono ?_
            rintro e w1 ⟨rfl, rfl⟩
            (go_wp2_with fail; repeat (any_goals (go_quiet (fail); go_wp2_with fail)))
            refine bodyPost_ret (v := .tuple #[.agg #[.int .i64 (0 + 1), .int .i64 (i : Int), .int .i64 ((i : Int) + 4), .string ⟨#[]⟩], .int .i64 0, .int .i64 0]) (by simp [results, Tryz.results50, go_sem, *]) rfl ⟨?_, (by repeat (first | assumption | exact Below.refl _ _ | apply Below.drew | apply below_drewN | apply balloc | (refine Below.setCell ?_ (by first | omega | (simp <;> omega)) _)))⟩
            rw [he.out]; rfl
          | false =>
            replace D : Hid (∀ w, Calls Tryz.prog 76 #[.string s, .int .i64 (i : Int), .string ⟨#[110, 117, 108, 108]⟩] w fun e w' => e = .returned (.bool false) ∧ w = w') := Lib.hid (fun w => by have := D.out w; rw [hm] at this; exact this)
            replace hm := Lib.hid hm
            replace hv := Lib.hid hv
            replace hK := Lib.hid hK
            (go_wp2_with fail; repeat (any_goals (go_quiet (fail); go_wp2_with fail)))
            refine (D.out _).mono ?_
            rintro e w1 ⟨rfl, rfl⟩
            (go_wp2_with fail; repeat (any_goals (go_quiet (fail); go_wp2_with fail)))
            go_roundw
            case rel => exact ⟨0 + 1, by omega, rfl, Lib.hid (fun j hj => by
              rcases (show j < 0 ∨ j = 0 by omega) with h | h
              · exact hno.out j h
              · subst h; exact hm.out), hv.out, hK.out, (by repeat (first | assumption | exact Below.refl _ _ | apply Below.drew | apply below_drewN | apply balloc | (refine Below.setCell ?_ (by first | omega | (simp <;> omega)) _)))⟩
            case measure => simp [intOf]
        · have kw : wr.cell? ⟨wo.heap.size, 1, none⟩ = some (.string ⟨#[116, 114, 117, 101]⟩) := cellB hK 1 rfl
          have D := Lib.hid (fun w => starts_calls' s i (wordF 1) w (by have := hs.out; omega) (by decide) (by have := hs.out; have := hi.out; omega))
          cases hm : startsS s i (wordF 1) with
          | true =>
            have he := rOneV_ok (hO.out.trans (one_true hm))
            replace D : Hid (∀ w, Calls Tryz.prog 76 #[.string s, .int .i64 (i : Int), .string ⟨#[116, 114, 117, 101]⟩] w fun e w' => e = .returned (.bool true) ∧ w = w') := Lib.hid (fun w => by have := D.out w; rw [hm] at this; exact this)
            replace hm := Lib.hid hm
            replace he := Lib.hid he
            have x0 := cellB hv 0 rfl
            have x1 := cellB hv 1 rfl
            have x2 := cellB hv 2 rfl
            have x3 := cellB hv 3 rfl
            have f0 := freeB hv 0
            have f1 := freeB hv 1
            have f2 := freeB hv 2
            have f3 := freeB hv 3
            have hvl := ltB hv
            replace hv := Lib.hid hv
            replace hK := Lib.hid hK
            (go_wp2_with fail; repeat (any_goals (go_quiet (fail); go_wp2_with fail)))
            refine (D.out _).mono ?_
            rintro e w1 ⟨rfl, rfl⟩
            (go_wp2_with fail; repeat (any_goals (go_quiet (fail); go_wp2_with fail)))
            refine bodyPost_ret (v := .tuple #[.agg #[.int .i64 (1 + 1), .int .i64 (i : Int), .int .i64 ((i : Int) + 4), .string ⟨#[]⟩], .int .i64 0, .int .i64 0]) (by simp [results, Tryz.results50, go_sem, *]) rfl ⟨?_, (by repeat (first | assumption | exact Below.refl _ _ | apply Below.drew | apply below_drewN | apply balloc | (refine Below.setCell ?_ (by first | omega | (simp <;> omega)) _)))⟩
            rw [he.out]; rfl
          | false =>
            replace D : Hid (∀ w, Calls Tryz.prog 76 #[.string s, .int .i64 (i : Int), .string ⟨#[116, 114, 117, 101]⟩] w fun e w' => e = .returned (.bool false) ∧ w = w') := Lib.hid (fun w => by have := D.out w; rw [hm] at this; exact this)
            replace hm := Lib.hid hm
            replace hv := Lib.hid hv
            replace hK := Lib.hid hK
            (go_wp2_with fail; repeat (any_goals (go_quiet (fail); go_wp2_with fail)))
            refine (D.out _).mono ?_
            rintro e w1 ⟨rfl, rfl⟩
            (go_wp2_with fail; repeat (any_goals (go_quiet (fail); go_wp2_with fail)))
            go_roundw
            case rel => exact ⟨1 + 1, by omega, rfl, Lib.hid (fun j hj => by
              rcases (show j < 1 ∨ j = 1 by omega) with h | h
              · exact hno.out j h
              · subst h; exact hm.out), hv.out, hK.out, (by repeat (first | assumption | exact Below.refl _ _ | apply Below.drew | apply below_drewN | apply balloc | (refine Below.setCell ?_ (by first | omega | (simp <;> omega)) _)))⟩
            case measure => simp [intOf]
        · have kw : wr.cell? ⟨wo.heap.size, 2, none⟩ = some (.string ⟨#[102, 97, 108, 115, 101]⟩) := cellB hK 2 rfl
          have D := Lib.hid (fun w => starts_calls' s i (wordF 2) w (by have := hs.out; omega) (by decide) (by have := hs.out; have := hi.out; omega))
          cases hm : startsS s i (wordF 2) with
          | true =>
            have he := rOneV_ok (hO.out.trans (one_false hm))
            replace D : Hid (∀ w, Calls Tryz.prog 76 #[.string s, .int .i64 (i : Int), .string ⟨#[102, 97, 108, 115, 101]⟩] w fun e w' => e = .returned (.bool true) ∧ w = w') := Lib.hid (fun w => by have := D.out w; rw [hm] at this; exact this)
            replace hm := Lib.hid hm
            replace he := Lib.hid he
            have x0 := cellB hv 0 rfl
            have x1 := cellB hv 1 rfl
            have x2 := cellB hv 2 rfl
            have x3 := cellB hv 3 rfl
            have f0 := freeB hv 0
            have f1 := freeB hv 1
            have f2 := freeB hv 2
            have f3 := freeB hv 3
            have hvl := ltB hv
            replace hv := Lib.hid hv
            replace hK := Lib.hid hK
            (go_wp2_with fail; repeat (any_goals (go_quiet (fail); go_wp2_with fail)))
            refine (D.out _).mono ?_
            rintro e w1 ⟨rfl, rfl⟩
            (go_wp2_with fail; repeat (any_goals (go_quiet (fail); go_wp2_with fail)))
            refine bodyPost_ret (v := .tuple #[.agg #[.int .i64 (2 + 1), .int .i64 (i : Int), .int .i64 ((i : Int) + 5), .string ⟨#[]⟩], .int .i64 0, .int .i64 0]) (by simp [results, Tryz.results50, go_sem, *]) rfl ⟨?_, (by repeat (first | assumption | exact Below.refl _ _ | apply Below.drew | apply below_drewN | apply balloc | (refine Below.setCell ?_ (by first | omega | (simp <;> omega)) _)))⟩
            rw [he.out]; rfl
          | false =>
            replace D : Hid (∀ w, Calls Tryz.prog 76 #[.string s, .int .i64 (i : Int), .string ⟨#[102, 97, 108, 115, 101]⟩] w fun e w' => e = .returned (.bool false) ∧ w = w') := Lib.hid (fun w => by have := D.out w; rw [hm] at this; exact this)
            replace hm := Lib.hid hm
            replace hv := Lib.hid hv
            replace hK := Lib.hid hK
            (go_wp2_with fail; repeat (any_goals (go_quiet (fail); go_wp2_with fail)))
            refine (D.out _).mono ?_
            rintro e w1 ⟨rfl, rfl⟩
            (go_wp2_with fail; repeat (any_goals (go_quiet (fail); go_wp2_with fail)))
            go_roundw
            case rel => exact ⟨2 + 1, by omega, rfl, Lib.hid (fun j hj => by
              rcases (show j < 2 ∨ j = 2 by omega) with h | h
              · exact hno.out j h
              · subst h; exact hm.out), hv.out, hK.out, (by repeat (first | assumption | exact Below.refl _ _ | apply Below.drew | apply below_drewN | apply balloc | (refine Below.setCell ?_ (by first | omega | (simp <;> omega)) _)))⟩
            case measure => simp [intOf]
        · have hE := hO.out.trans (one_rest hk0.out hno.out)
          clear hno hK hk hk0
          rename_i wq
          by_cases hn : bAt s i = 45 ∨ isD (bAt s i) = true
          · rw [if_pos hn] at hE
            obtain ⟨N, hN⟩ : ∃ N, numAt s i = N := ⟨_, rfl⟩
            rw [hN] at hE
            have C := Lib.hid (fun w => rNumber_calls2 s i w hs.out hi.out _ (by rw [hN]))
            replace hN := Lib.hid hN
            obtain ⟨nb, ne⟩ := N
            cases nb with
            | true =>
              rw [if_pos rfl] at hE
              have he := rOneV_ok hE
              replace C : Hid (∀ w, Calls Tryz.prog 78 #[.string s, .int .i64 (i : Int)] w fun e w' => e = .returned (.tuple #[.int .i64 (ne : Int), .int .i64 (-1)]) ∧ w = w') := C
              replace hE := Lib.hid hE
              replace he := Lib.hid he
              by_cases h45 : bAt s i = 45
              · have h45' : ((bAt s i : Int) == 45) = true := by simp; omega
                replace h45 := Lib.hid h45
                replace hn := Lib.hid hn
                have x0 := cellB hv 0 rfl
                have x1 := cellB hv 1 rfl
                have x2 := cellB hv 2 rfl
                have x3 := cellB hv 3 rfl
                have f0 := freeB hv 0
                have f1 := freeB hv 1
                have f2 := freeB hv 2
                have f3 := freeB hv 3
                have hvl := ltB hv
                replace hv := Lib.hid hv
                (go_wp2_with fail; repeat (any_goals (go_quiet (fail); go_wp2_with fail)))
                refine (C.out _).mono ?_
                rintro e w1 ⟨rfl, rfl⟩
                (go_wp2_with fail; repeat (any_goals (go_quiet (fail); go_wp2_with fail)))
                refine bodyPost_ret (v := .tuple #[.agg #[.int .i64 4, .int .i64 (i : Int), .int .i64 (ne : Int), .string ⟨#[]⟩], .int .i64 0, .int .i64 0]) (by simp [results, Tryz.results50, go_sem, *]) rfl ⟨?_, (by repeat (first | assumption | exact Below.refl _ _ | apply Below.drew | apply below_drewN | apply balloc | (refine Below.setCell ?_ (by first | omega | (simp <;> omega)) _)))⟩
                rw [he.out]; rfl
              · have h45' : ((bAt s i : Int) == 45) = false := by simp; omega
                have D := Lib.hid (fun w => rDigit_calls2 (bAt s i) true w (by rcases hn with h | h; exact absurd h h45; exact h))
                replace h45 := Lib.hid h45
                replace hn := Lib.hid hn
                have x0 := cellB hv 0 rfl
                have x1 := cellB hv 1 rfl
                have x2 := cellB hv 2 rfl
                have x3 := cellB hv 3 rfl
                have f0 := freeB hv 0
                have f1 := freeB hv 1
                have f2 := freeB hv 2
                have f3 := freeB hv 3
                have hvl := ltB hv
                replace hv := Lib.hid hv
                (go_wp2_with fail; repeat (any_goals (go_quiet (fail); go_wp2_with fail)))
                refine (D.out _).mono ?_
                rintro e w1 ⟨rfl, rfl⟩
                (go_wp2_with fail; repeat (any_goals (go_quiet (fail); go_wp2_with fail)))
                refine (C.out _).mono ?_
                rintro e w1 ⟨rfl, rfl⟩
                (go_wp2_with fail; repeat (any_goals (go_quiet (fail); go_wp2_with fail)))
                refine bodyPost_ret (v := .tuple #[.agg #[.int .i64 4, .int .i64 (i : Int), .int .i64 (ne : Int), .string ⟨#[]⟩], .int .i64 0, .int .i64 0]) (by simp [results, Tryz.results50, go_sem, *]) rfl ⟨?_, (by repeat (first | assumption | exact Below.refl _ _ | apply Below.drew | apply below_drewN | apply balloc | (refine Below.setCell ?_ (by first | omega | (simp <;> omega)) _)))⟩
                rw [he.out]; rfl
            | false =>
              rw [if_neg (by simp)] at hE
              have he := rOneV_bad hE
              replace C : Hid (∀ w, Calls Tryz.prog 78 #[.string s, .int .i64 (i : Int)] w fun e w' => e = .returned (.tuple #[.int .i64 0, .int .i64 (ne : Int)]) ∧ w = w') := C
              replace hE := Lib.hid hE
              replace he := Lib.hid he
              by_cases h45 : bAt s i = 45
              · have h45' : ((bAt s i : Int) == 45) = true := by simp; omega
                replace h45 := Lib.hid h45
                replace hn := Lib.hid hn
                have x0 := cellB hv 0 rfl
                have x1 := cellB hv 1 rfl
                have x2 := cellB hv 2 rfl
                have x3 := cellB hv 3 rfl
                have f0 := freeB hv 0
                have f1 := freeB hv 1
                have f2 := freeB hv 2
                have f3 := freeB hv 3
                have hvl := ltB hv
                replace hv := Lib.hid hv
                (go_wp2_with fail; repeat (any_goals (go_quiet (fail); go_wp2_with fail)))
                refine (C.out _).mono ?_
                rintro e w1 ⟨rfl, rfl⟩
                (go_wp2_with fail; repeat (any_goals (go_quiet (fail); go_wp2_with fail)))
                refine bodyPost_ret (v := .tuple #[.agg #[.int .i64 0, .int .i64 0, .int .i64 0, .string ⟨#[]⟩], .int .i64 2, .int .i64 (ne : Int)]) (by simp [results, Tryz.results50, go_sem, *]) rfl ⟨?_, (by repeat (first | assumption | exact Below.refl _ _ | apply Below.drew | apply below_drewN | apply balloc | (refine Below.setCell ?_ (by first | omega | (simp <;> omega)) _)))⟩
                rw [he.out]; rfl
              · have h45' : ((bAt s i : Int) == 45) = false := by simp; omega
                have D := Lib.hid (fun w => rDigit_calls2 (bAt s i) true w (by rcases hn with h | h; exact absurd h h45; exact h))
                replace h45 := Lib.hid h45
                replace hn := Lib.hid hn
                have x0 := cellB hv 0 rfl
                have x1 := cellB hv 1 rfl
                have x2 := cellB hv 2 rfl
                have x3 := cellB hv 3 rfl
                have f0 := freeB hv 0
                have f1 := freeB hv 1
                have f2 := freeB hv 2
                have f3 := freeB hv 3
                have hvl := ltB hv
                replace hv := Lib.hid hv
                (go_wp2_with fail; repeat (any_goals (go_quiet (fail); go_wp2_with fail)))
                refine (D.out _).mono ?_
                rintro e w1 ⟨rfl, rfl⟩
                (go_wp2_with fail; repeat (any_goals (go_quiet (fail); go_wp2_with fail)))
                refine (C.out _).mono ?_
                rintro e w1 ⟨rfl, rfl⟩
                (go_wp2_with fail; repeat (any_goals (go_quiet (fail); go_wp2_with fail)))
                refine bodyPost_ret (v := .tuple #[.agg #[.int .i64 0, .int .i64 0, .int .i64 0, .string ⟨#[]⟩], .int .i64 2, .int .i64 (ne : Int)]) (by simp [results, Tryz.results50, go_sem, *]) rfl ⟨?_, (by repeat (first | assumption | exact Below.refl _ _ | apply Below.drew | apply below_drewN | apply balloc | (refine Below.setCell ?_ (by first | omega | (simp <;> omega)) _)))⟩
                rw [he.out]; rfl
          · rw [if_neg hn] at hE
            have h45' : ((bAt s i : Int) == 45) = false := by simp; omega
            have D := Lib.hid (fun w => rDigit_calls2 (bAt s i) false w (by rw [Bool.eq_false_iff]; exact fun h => hn (Or.inr h)))
            replace hn := Lib.hid hn
            by_cases h34 : bAt s i = 34
            · have h34' : ((bAt s i : Int) == 34) = true := by simp; omega
              rw [if_pos h34] at hE
              obtain ⟨R, hR⟩ : ∃ R, qAt s (i + 1) [] = R := ⟨_, rfl⟩
              rw [hR] at hE
              replace h34 := Lib.hid h34
              obtain ⟨e0, p, l⟩ := R
              cases e0 with
              | zero =>
                have C := Lib.hid (fun w => rQuoted_calls2 s i w hs.out hi.out _ (rQV_ok hR))
                rw [if_pos rfl] at hE
                have he := rOneV_ok hE
                replace hE := Lib.hid hE
                replace he := Lib.hid he
                replace hR := Lib.hid hR
                replace hv := Lib.hid hv
                (go_wp2_with fail; repeat (any_goals (go_quiet (fail); go_wp2_with fail)))
                refine (D.out _).mono ?_
                rintro e w1 ⟨rfl, rfl⟩
                (go_wp2_with fail; repeat (any_goals (go_quiet (fail); go_wp2_with fail)))
                refine (C.out _).mono ?_
                rintro e w2 ⟨rfl, hb⟩
                have hb2 : Below w.heap.size w w2 := hB.trans (hb.mono hB.size)
                replace hv := box_next hv.out hb
                clear hb hB
                have x0 := cellB hv 0 rfl
                have x1 := cellB hv 1 rfl
                have x2 := cellB hv 2 rfl
                have x3 := cellB hv 3 rfl
                have f0 := freeB hv 0
                have f1 := freeB hv 1
                have f2 := freeB hv 2
                have f3 := freeB hv 3
                have hvl := ltB hv
                replace hv := Lib.hid hv
                (go_wp2_with fail; repeat (any_goals (go_quiet (fail); go_wp2_with fail)))
                refine bodyPost_ret (v := .tuple #[.agg #[.int .i64 5, .int .i64 (i : Int), .int .i64 (p : Int), .string ⟨l.toArray⟩], .int .i64 0, .int .i64 0]) (by simp [results, Tryz.results50, go_sem, *]) rfl ⟨?_, (by repeat (first | assumption | exact Below.refl _ _ | apply Below.drew | apply below_drewN | apply balloc | (refine Below.setCell ?_ (by first | omega | (simp <;> omega)) _)))⟩
                rw [he.out]; rfl
              | succ e0 =>
                have C := Lib.hid (fun w => rQuoted_calls2 s i w hs.out hi.out _ (rQV_bad hR))
                rw [if_neg (by simp)] at hE
                have he := rOneV_bad hE
                have hne2 : (((e0 + 1 : Nat) : Int) != 0) = true := by simp; omega
                replace hE := Lib.hid hE
                replace hR := Lib.hid hR
                replace hv := Lib.hid hv
                generalize ((e0 + 1 : Nat) : Int) = e1 at *
                replace he := Lib.hid he
                (go_wp2_with fail; repeat (any_goals (go_quiet (fail); go_wp2_with fail)))
                refine (D.out _).mono ?_
                rintro e w1 ⟨rfl, rfl⟩
                (go_wp2_with fail; repeat (any_goals (go_quiet (fail); go_wp2_with fail)))
                refine (C.out _).mono ?_
                rintro e w2 ⟨rfl, hb⟩
                have hb2 : Below w.heap.size w w2 := hB.trans (hb.mono hB.size)
                replace hv := box_next hv.out hb
                clear hb hB
                have x0 := cellB hv 0 rfl
                have x1 := cellB hv 1 rfl
                have x2 := cellB hv 2 rfl
                have x3 := cellB hv 3 rfl
                have f0 := freeB hv 0
                have f1 := freeB hv 1
                have f2 := freeB hv 2
                have f3 := freeB hv 3
                have hvl := ltB hv
                replace hv := Lib.hid hv
                (go_wp2_with fail; repeat (any_goals (go_quiet (fail); go_wp2_with fail)))
                refine bodyPost_ret (v := .tuple #[.agg #[.int .i64 0, .int .i64 0, .int .i64 0, .string ⟨#[]⟩], .int .i64 e1, .int .i64 (p : Int)]) (by simp [results, Tryz.results50, go_sem, *]) rfl ⟨?_, (by repeat (first | assumption | exact Below.refl _ _ | apply Below.drew | apply below_drewN | apply balloc | (refine Below.setCell ?_ (by first | omega | (simp <;> omega)) _)))⟩
                rw [he.out]
            · have h34' : ((bAt s i : Int) == 34) = false := by simp; omega
              rw [if_neg h34] at hE
              have he := rOneV_bad hE
              replace h34 := Lib.hid h34
              replace hE := Lib.hid hE
              replace he := Lib.hid he
              replace hv := Lib.hid hv
              (go_wp2_with fail; repeat (any_goals (go_quiet (fail); go_wp2_with fail)))
              refine (D.out _).mono ?_
              rintro e w1 ⟨rfl, rfl⟩
              replace hv := hv.out
              have x0 := cellB hv 0 rfl
              have x1 := cellB hv 1 rfl
              have x2 := cellB hv 2 rfl
              have x3 := cellB hv 3 rfl
              have f0 := freeB hv 0
              have f1 := freeB hv 1
              have f2 := freeB hv 2
              have f3 := freeB hv 3
              have hvl := ltB hv
              replace hv := Lib.hid hv
              (go_wp2_with fail; repeat (any_goals (go_quiet (fail); go_wp2_with fail)))
              refine bodyPost_ret (v := .tuple #[.agg #[.int .i64 0, .int .i64 0, .int .i64 0, .string ⟨#[]⟩], .int .i64 2, .int .i64 (i : Int)]) (by simp [results, Tryz.results50, go_sem, *]) rfl ⟨?_, (by repeat (first | assumption | exact Below.refl _ _ | apply Below.drew | apply below_drewN | apply balloc | (refine Below.setCell ?_ (by first | omega | (simp <;> omega)) _)))⟩
              rw [he.out]; rfl

end Go.Proofs.YtibopkodoidjoaaGreatDoor

/- Package scan: the walk of next at numbers and texts. -/
namespace Go.Proofs.YtibopkodoidjoaaGreatDoor
open Go Go.RowKit

set_option maxHeartbeats 2000000 in
set_option maxRecDepth 100000 in
theorem next_num_minus {A : Nat → Addr} {B : Nat} (s : ByteArray) (p b : Nat) (w : World) (hE : Env A B SJ w) (hs : s.size ≤ 35184372088830) (hsc : ScB s (p : Int) b w) (hp : p < s.size) (hk : signK (bAt s p) = 0) (hw : bAt s p ≠ 110 ∧ bAt s p ≠ 116 ∧ bAt s p ≠ 102) (hn : bAt s p = 45) (hd : True) :
    Calls Tryz.prog 82 #[.pointer (some ⟨b, 0, none⟩)] w fun e w' => (if (numAt s p).1 = true then e = .returned (.tuple #[tkV ⟨4, p, (numAt s p).2, noS⟩, .nilIface]) else NextBad A 2 (numAt s p).2 w e w') ∧ Below w.heap.size w w' := by
  have x0 := hsc.s
  have x1 := hsc.at
  have hbl : b < w.heap.size := ltB hsc
  have hx := byte_at s p
  have hp' : (p : Int) < (s.size : Int) := by omega
  have hs' : (s.size : Int) ≤ 35184372088830 := by omega
  replace hsc := Lib.hid hsc
  have O := fun w => one_calls (bAt s p) w
  have W := fun w => word_calls (bAt s p) w
  rw [hk] at O
  rw [show wordS (bAt s p) = ⟨#[]⟩ by unfold wordS; rw [if_neg (by omega), if_neg (by omega), if_neg (by omega)], show wordK (bAt s p) = 0 by unfold wordK; rw [if_neg (by omega), if_neg (by omega), if_neg (by omega)]] at W
  have D := fun w => digit_calls (bAt s p) w
  skip
  have N := fun w hE hsc => number_calls (A := A) (B := B) s p b w hE (Nat.le_trans hs (by decide)) hsc hp
  generalize bAt s p = c at *
  have c45 : ((c : Int) == 45) = true := by simp; omega
  generalize numAt s p = X at *
  obtain ⟨ok, te⟩ := X
  replace hk := Lib.hid hk
  replace hw := Lib.hid hw
  replace hn := Lib.hid hn
  replace hd := Lib.hid hd
  replace O := Lib.hid O
  replace W := Lib.hid W
  replace D := Lib.hid D
  replace N := Lib.hid N
  go_enter Tryz.func82, Tryz.ntmps82
  (go_wp2_with fail; repeat (any_goals (go_quiet (fail); go_wp2_with fail)))
  refine (O.out _).mono ?_
  rintro e w1 ⟨rfl, hw⟩
  have hb1 : Below w.heap.size w w1 := by rw [hw]; exact (by repeat (first | assumption | exact Below.refl _ _ | apply Below.drew | apply below_drewN | apply balloc | (refine Below.setCell ?_ (by first | omega | (simp <;> omega)) _)))
  have y0 : w1.cell? ⟨b, 0, none⟩ = some (.string s) := (hsc.out.next hb1).s
  have y1 := (hsc.out.next hb1).at
  have hv : w1.heap[w.heap.size]? = some (.cells #[.int .i64 0, .int .i64 0, .int .i64 0, .string ⟨#[]⟩] 59 (0, 0)) := by rw [hw]; exact heap_alloc_new w _
  have v0 := cellB hv 0 rfl
  have v1 := cellB hv 1 rfl
  have v2 := cellB hv 2 rfl
  have v3 := cellB hv 3 rfl
  have f0 := freeB hv 0
  have f1 := freeB hv 1
  have f2 := freeB hv 2
  have f3 := freeB hv 3
  have hvl := ltB hv
  replace hv := Lib.hid hv
  clear hw x0 x1
  (go_wp2_with fail; repeat (any_goals (go_quiet (fail); go_wp2_with fail)))
  refine (W.out _).mono ?_
  rintro e w2 ⟨rfl, rfl⟩
  (go_wp2_with fail; repeat (any_goals (go_quiet (fail); go_wp2_with fail)))
  have hz1 := hb1.size
  refine (N.out _ (hE.next hb1) (hsc.out.next hb1)).mono ?_
  cases ok with
  | true =>
    rintro e w4 ⟨hr, hb⟩
    have hr := (numR_ok rfl).1 hr
    subst hr
    have hv2 := box_next hv.out hb
    have u0 := cellB hv2 0 rfl
    have u1 := cellB hv2 1 rfl
    have u2 := cellB hv2 2 rfl
    have u3 := cellB hv2 3 rfl
    have g0 := freeB hv2 0
    have g1 := freeB hv2 1
    have g2 := freeB hv2 2
    have g3 := freeB hv2 3
    have hvl2 := ltB hv2
    replace hv2 := Lib.hid hv2
    clear v0 v1 v2 v3 f0 f1 f2 f3 hvl
    have hb4 : Below w.heap.size w w4 := bcall hb1 hb
    clear hb
    (go_wp2_with fail; repeat (any_goals (go_quiet (fail); go_wp2_with fail)))
    refine bodyPost_ret (v := .tuple #[.agg #[.int .i64 (4 : Int), .int .i64 (p : Int), .int .i64 (te : Int), .string ⟨#[]⟩], .nilIface]) ?_ rfl ⟨?_, (by repeat (first | assumption | exact Below.refl _ _ | apply Below.drew | apply below_drewN | apply balloc | (refine Below.setCell ?_ (by first | omega | (simp <;> omega)) _)))⟩
    · simp [results, Tryz.results82, go_sem, *]
    unfold tkV
    simp [noS]
  | false =>
    rintro e w4 ⟨hr, hb⟩
    obtain ⟨g, hg, he, hat⟩ := (numR_bad rfl).1 hr
    subst he
    have hg2 : w.heap.size + 1 ≤ g := Nat.le_trans hvl hg
    have hv2 := box_next hv.out hb
    have u0 := cellB hv2 0 rfl
    have u1 := cellB hv2 1 rfl
    have u2 := cellB hv2 2 rfl
    have u3 := cellB hv2 3 rfl
    have g0 := freeB hv2 0
    have g1 := freeB hv2 1
    have g2 := freeB hv2 2
    have g3 := freeB hv2 3
    have hvl2 := ltB hv2
    replace hv2 := Lib.hid hv2
    clear v0 v1 v2 v3 f0 f1 f2 f3 hvl
    have hb4 : Below w.heap.size w w4 := bcall hb1 hb
    clear hb hr
    replace hat := Lib.hid hat
    (go_wp2_with fail; repeat (any_goals (go_quiet (fail); go_wp2_with fail)))
    refine bodyPost_ret (v := .tuple #[.agg #[.int .i64 0, .int .i64 0, .int .i64 0, .string ⟨#[]⟩], .iface 69 (.pointer (some ⟨g, 0, none⟩))]) ?_ rfl ⟨?_, (by repeat (first | assumption | exact Below.refl _ _ | apply Below.drew | apply below_drewN | apply balloc | (refine Below.setCell ?_ (by first | omega | (simp <;> omega)) _)))⟩
    · simp [results, Tryz.results82, go_sem, *]
    · refine ⟨g, by omega, rfl, ?_⟩
      unfold AtB
      have := hat.out
      unfold AtB at this
      rw [Below.heap_setCell _ _ _ _ (by simp; omega), Below.heap_setCell _ _ _ _ (by simp; omega), Below.heap_setCell _ _ _ _ (by simp; omega), Below.heap_setCell _ _ _ _ (by simp; omega)]
      exact this
set_option maxHeartbeats 2000000 in
set_option maxRecDepth 100000 in
theorem next_num_digit {A : Nat → Addr} {B : Nat} (s : ByteArray) (p b : Nat) (w : World) (hE : Env A B SJ w) (hs : s.size ≤ 35184372088830) (hsc : ScB s (p : Int) b w) (hp : p < s.size) (hk : signK (bAt s p) = 0) (hw : bAt s p ≠ 110 ∧ bAt s p ≠ 116 ∧ bAt s p ≠ 102) (hn : bAt s p ≠ 45) (hd : isD (bAt s p) = true) :
    Calls Tryz.prog 82 #[.pointer (some ⟨b, 0, none⟩)] w fun e w' => (if (numAt s p).1 = true then e = .returned (.tuple #[tkV ⟨4, p, (numAt s p).2, noS⟩, .nilIface]) else NextBad A 2 (numAt s p).2 w e w') ∧ Below w.heap.size w w' := by
  have x0 := hsc.s
  have x1 := hsc.at
  have hbl : b < w.heap.size := ltB hsc
  have hx := byte_at s p
  have hp' : (p : Int) < (s.size : Int) := by omega
  have hs' : (s.size : Int) ≤ 35184372088830 := by omega
  replace hsc := Lib.hid hsc
  have O := fun w => one_calls (bAt s p) w
  have W := fun w => word_calls (bAt s p) w
  rw [hk] at O
  rw [show wordS (bAt s p) = ⟨#[]⟩ by unfold wordS; rw [if_neg (by omega), if_neg (by omega), if_neg (by omega)], show wordK (bAt s p) = 0 by unfold wordK; rw [if_neg (by omega), if_neg (by omega), if_neg (by omega)]] at W
  have D := fun w => digit_calls (bAt s p) w
  rw [hd] at D
  have N := fun w hE hsc => number_calls (A := A) (B := B) s p b w hE (Nat.le_trans hs (by decide)) hsc hp
  generalize bAt s p = c at *
  have c45 : ((c : Int) == 45) = false := by simp; omega
  generalize numAt s p = X at *
  obtain ⟨ok, te⟩ := X
  replace hk := Lib.hid hk
  replace hw := Lib.hid hw
  replace hn := Lib.hid hn
  replace hd := Lib.hid hd
  replace O := Lib.hid O
  replace W := Lib.hid W
  replace D := Lib.hid D
  replace N := Lib.hid N
  go_enter Tryz.func82, Tryz.ntmps82
  (go_wp2_with fail; repeat (any_goals (go_quiet (fail); go_wp2_with fail)))
  refine (O.out _).mono ?_
  rintro e w1 ⟨rfl, hw⟩
  have hb1 : Below w.heap.size w w1 := by rw [hw]; exact (by repeat (first | assumption | exact Below.refl _ _ | apply Below.drew | apply below_drewN | apply balloc | (refine Below.setCell ?_ (by first | omega | (simp <;> omega)) _)))
  have y0 : w1.cell? ⟨b, 0, none⟩ = some (.string s) := (hsc.out.next hb1).s
  have y1 := (hsc.out.next hb1).at
  have hv : w1.heap[w.heap.size]? = some (.cells #[.int .i64 0, .int .i64 0, .int .i64 0, .string ⟨#[]⟩] 59 (0, 0)) := by rw [hw]; exact heap_alloc_new w _
  have v0 := cellB hv 0 rfl
  have v1 := cellB hv 1 rfl
  have v2 := cellB hv 2 rfl
  have v3 := cellB hv 3 rfl
  have f0 := freeB hv 0
  have f1 := freeB hv 1
  have f2 := freeB hv 2
  have f3 := freeB hv 3
  have hvl := ltB hv
  replace hv := Lib.hid hv
  clear hw x0 x1
  (go_wp2_with fail; repeat (any_goals (go_quiet (fail); go_wp2_with fail)))
  refine (W.out _).mono ?_
  rintro e w2 ⟨rfl, rfl⟩
  (go_wp2_with fail; repeat (any_goals (go_quiet (fail); go_wp2_with fail)))
  refine (D.out _).mono ?_
  rintro e w3 ⟨rfl, rfl⟩
  (go_wp2_with fail; repeat (any_goals (go_quiet (fail); go_wp2_with fail)))
  have hz1 := hb1.size
  refine (N.out _ (hE.next hb1) (hsc.out.next hb1)).mono ?_
  cases ok with
  | true =>
    rintro e w4 ⟨hr, hb⟩
    have hr := (numR_ok rfl).1 hr
    subst hr
    have hv2 := box_next hv.out hb
    have u0 := cellB hv2 0 rfl
    have u1 := cellB hv2 1 rfl
    have u2 := cellB hv2 2 rfl
    have u3 := cellB hv2 3 rfl
    have g0 := freeB hv2 0
    have g1 := freeB hv2 1
    have g2 := freeB hv2 2
    have g3 := freeB hv2 3
    have hvl2 := ltB hv2
    replace hv2 := Lib.hid hv2
    clear v0 v1 v2 v3 f0 f1 f2 f3 hvl
    have hb4 : Below w.heap.size w w4 := bcall hb1 hb
    clear hb
    (go_wp2_with fail; repeat (any_goals (go_quiet (fail); go_wp2_with fail)))
    refine bodyPost_ret (v := .tuple #[.agg #[.int .i64 (4 : Int), .int .i64 (p : Int), .int .i64 (te : Int), .string ⟨#[]⟩], .nilIface]) ?_ rfl ⟨?_, (by repeat (first | assumption | exact Below.refl _ _ | apply Below.drew | apply below_drewN | apply balloc | (refine Below.setCell ?_ (by first | omega | (simp <;> omega)) _)))⟩
    · simp [results, Tryz.results82, go_sem, *]
    unfold tkV
    simp [noS]
  | false =>
    rintro e w4 ⟨hr, hb⟩
    obtain ⟨g, hg, he, hat⟩ := (numR_bad rfl).1 hr
    subst he
    have hg2 : w.heap.size + 1 ≤ g := Nat.le_trans hvl hg
    have hv2 := box_next hv.out hb
    have u0 := cellB hv2 0 rfl
    have u1 := cellB hv2 1 rfl
    have u2 := cellB hv2 2 rfl
    have u3 := cellB hv2 3 rfl
    have g0 := freeB hv2 0
    have g1 := freeB hv2 1
    have g2 := freeB hv2 2
    have g3 := freeB hv2 3
    have hvl2 := ltB hv2
    replace hv2 := Lib.hid hv2
    clear v0 v1 v2 v3 f0 f1 f2 f3 hvl
    have hb4 : Below w.heap.size w w4 := bcall hb1 hb
    clear hb hr
    replace hat := Lib.hid hat
    (go_wp2_with fail; repeat (any_goals (go_quiet (fail); go_wp2_with fail)))
    refine bodyPost_ret (v := .tuple #[.agg #[.int .i64 0, .int .i64 0, .int .i64 0, .string ⟨#[]⟩], .iface 69 (.pointer (some ⟨g, 0, none⟩))]) ?_ rfl ⟨?_, (by repeat (first | assumption | exact Below.refl _ _ | apply Below.drew | apply below_drewN | apply balloc | (refine Below.setCell ?_ (by first | omega | (simp <;> omega)) _)))⟩
    · simp [results, Tryz.results82, go_sem, *]
    · refine ⟨g, by omega, rfl, ?_⟩
      unfold AtB
      have := hat.out
      unfold AtB at this
      rw [Below.heap_setCell _ _ _ _ (by simp; omega), Below.heap_setCell _ _ _ _ (by simp; omega), Below.heap_setCell _ _ _ _ (by simp; omega), Below.heap_setCell _ _ _ _ (by simp; omega)]
      exact this

set_option maxHeartbeats 2000000 in
set_option maxRecDepth 100000 in
theorem next_text {A : Nat → Addr} {B : Nat} (s : ByteArray) (p b : Nat) (w : World) (hE : Env A B SJ w) (hs : s.size ≤ 35184372088830) (hsc : ScB s (p : Int) b w) (hp : p < s.size) (hv : brkAt s (p + 1) = s.size) (hc : bAt s p = 34) :
    Calls Tryz.prog 82 #[.pointer (some ⟨b, 0, none⟩)] w fun e w' => (if (qAt s (p + 1) []).1 = 0 then e = .returned (.tuple #[tkV ⟨5, p, (qAt s (p + 1) []).2.1, ⟨(qAt s (p + 1) []).2.2.toArray⟩⟩, .nilIface]) else NextBad A (qAt s (p + 1) []).1 (qAt s (p + 1) []).2.1 w e w') ∧ Below w.heap.size w w' := by
  have x0 := hsc.s
  have x1 := hsc.at
  have hbl : b < w.heap.size := ltB hsc
  have hx := byte_at s p
  have hp' : (p : Int) < (s.size : Int) := by omega
  have hs' : (s.size : Int) ≤ 35184372088830 := by omega
  replace hsc := Lib.hid hsc
  have hk : signK (bAt s p) = 0 := by rw [hc]; rfl
  have hw : bAt s p ≠ 110 ∧ bAt s p ≠ 116 ∧ bAt s p ≠ 102 := by omega
  have O := fun w => one_calls (bAt s p) w
  have W := fun w => word_calls (bAt s p) w
  rw [hk] at O
  rw [show wordS (bAt s p) = ⟨#[]⟩ by unfold wordS; rw [if_neg (by omega), if_neg (by omega), if_neg (by omega)], show wordK (bAt s p) = 0 by unfold wordK; rw [if_neg (by omega), if_neg (by omega), if_neg (by omega)]] at W
  have D := fun w => digit_calls (bAt s p) w
  rw [show isD (bAt s p) = false by rw [hc]; rfl] at D
  have T := fun w hE hsc => text_calls (A := A) (B := B) s p b w hE hs hsc hp hv
  have c45 : ((bAt s p : Int) == 45) = false := by rw [hc]; rfl
  have c34 : ((bAt s p : Int) == 34) = true := by rw [hc]; rfl
  generalize bAt s p = c at *
  generalize qAt s (p + 1) [] = X at *
  obtain ⟨k, te, l⟩ := X
  replace hk := Lib.hid hk
  replace hw := Lib.hid hw
  replace hc := Lib.hid hc
  replace hv := Lib.hid hv
  replace O := Lib.hid O
  replace W := Lib.hid W
  replace D := Lib.hid D
  replace T := Lib.hid T
  go_enter Tryz.func82, Tryz.ntmps82
  (go_wp2_with fail; repeat (any_goals (go_quiet (fail); go_wp2_with fail)))
  refine (O.out _).mono ?_
  rintro e w1 ⟨rfl, hw⟩
  have hb1 : Below w.heap.size w w1 := by rw [hw]; exact (by repeat (first | assumption | exact Below.refl _ _ | apply Below.drew | apply below_drewN | apply balloc | (refine Below.setCell ?_ (by first | omega | (simp <;> omega)) _)))
  have y0 : w1.cell? ⟨b, 0, none⟩ = some (.string s) := (hsc.out.next hb1).s
  have y1 := (hsc.out.next hb1).at
  have hv : w1.heap[w.heap.size]? = some (.cells #[.int .i64 0, .int .i64 0, .int .i64 0, .string ⟨#[]⟩] 59 (0, 0)) := by rw [hw]; exact heap_alloc_new w _
  have v0 := cellB hv 0 rfl
  have v1 := cellB hv 1 rfl
  have v2 := cellB hv 2 rfl
  have v3 := cellB hv 3 rfl
  have f0 := freeB hv 0
  have f1 := freeB hv 1
  have f2 := freeB hv 2
  have f3 := freeB hv 3
  have hvl := ltB hv
  replace hv := Lib.hid hv
  clear hw x0 x1
  (go_wp2_with fail; repeat (any_goals (go_quiet (fail); go_wp2_with fail)))
  refine (W.out _).mono ?_
  rintro e w2 ⟨rfl, rfl⟩
  (go_wp2_with fail; repeat (any_goals (go_quiet (fail); go_wp2_with fail)))
  refine (D.out _).mono ?_
  rintro e w3 ⟨rfl, rfl⟩
  (go_wp2_with fail; repeat (any_goals (go_quiet (fail); go_wp2_with fail)))
  have hz1 := hb1.size
  refine (T.out _ (hE.next hb1) (hsc.out.next hb1)).mono ?_
  cases k with
  | zero =>
    rintro e w4 ⟨hr, hb⟩
    have hr := (textR_ok rfl).1 hr
    subst hr
    have hv2 := box_next hv.out hb
    have u0 := cellB hv2 0 rfl
    have u1 := cellB hv2 1 rfl
    have u2 := cellB hv2 2 rfl
    have u3 := cellB hv2 3 rfl
    have g0 := freeB hv2 0
    have g1 := freeB hv2 1
    have g2 := freeB hv2 2
    have g3 := freeB hv2 3
    have hvl2 := ltB hv2
    replace hv2 := Lib.hid hv2
    clear v0 v1 v2 v3 f0 f1 f2 f3 hvl
    have hb4 : Below w.heap.size w w4 := bcall hb1 hb
    clear hb
    (go_wp2_with fail; repeat (any_goals (go_quiet (fail); go_wp2_with fail)))
    refine bodyPost_ret (v := .tuple #[.agg #[.int .i64 (5 : Int), .int .i64 (p : Int), .int .i64 (te : Int), .string ⟨l.toArray⟩], .nilIface]) ?_ rfl ⟨?_, (by repeat (first | assumption | exact Below.refl _ _ | apply Below.drew | apply below_drewN | apply balloc | (refine Below.setCell ?_ (by first | omega | (simp <;> omega)) _)))⟩
    · simp [results, Tryz.results82, go_sem, *]
    unfold tkV
    simp
  | succ k =>
    rintro e w4 ⟨hr, hb⟩
    obtain ⟨g, hg, he, hat⟩ := (textR_bad rfl).1 hr
    subst he
    have hg2 : w.heap.size + 1 ≤ g := Nat.le_trans hvl hg
    have hv2 := box_next hv.out hb
    have u0 := cellB hv2 0 rfl
    have u1 := cellB hv2 1 rfl
    have u2 := cellB hv2 2 rfl
    have u3 := cellB hv2 3 rfl
    have g0 := freeB hv2 0
    have g1 := freeB hv2 1
    have g2 := freeB hv2 2
    have g3 := freeB hv2 3
    have hvl2 := ltB hv2
    replace hv2 := Lib.hid hv2
    clear v0 v1 v2 v3 f0 f1 f2 f3 hvl
    have hb4 : Below w.heap.size w w4 := bcall hb1 hb
    clear hb hr
    replace hat := Lib.hid hat
    (go_wp2_with fail; repeat (any_goals (go_quiet (fail); go_wp2_with fail)))
    refine bodyPost_ret (v := .tuple #[.agg #[.int .i64 0, .int .i64 0, .int .i64 0, .string ⟨#[]⟩], .iface 69 (.pointer (some ⟨g, 0, none⟩))]) ?_ rfl ⟨?_, (by repeat (first | assumption | exact Below.refl _ _ | apply Below.drew | apply below_drewN | apply balloc | (refine Below.setCell ?_ (by first | omega | (simp <;> omega)) _)))⟩
    · simp [results, Tryz.results82, go_sem, *]
    · refine ⟨g, by omega, rfl, ?_⟩
      unfold AtB
      have := hat.out
      unfold AtB at this
      rw [Below.heap_setCell _ _ _ _ (by simp; omega), Below.heap_setCell _ _ _ _ (by simp; omega), Below.heap_setCell _ _ _ _ (by simp; omega), Below.heap_setCell _ _ _ _ (by simp; omega)]
      exact this

end Go.Proofs.YtibopkodoidjoaaGreatDoor

/- Package scan: next, whole. -/
namespace Go.Proofs.YtibopkodoidjoaaGreatDoor
open Go Go.RowKit

theorem tok_calls {A : Nat → Addr} {B : Nat} (s : ByteArray) (p b : Nat) (w : World) (hE : Env A B SJ w) (hs : s.size ≤ 35184372088830) (hsc : ScB s (p : Int) b w) (hp : p < s.size) (hv : brkAt s p = s.size) :
    Calls Tryz.prog 82 #[.pointer (some ⟨b, 0, none⟩)] w fun e w' => NextR A (oneAt s p) w e w' ∧ Below w.heap.size w w' := by
  have out : ∀ {O : Nat × Nat × Tk} {t : Tk} {i : Nat}, O = (0, i, t) → Calls Tryz.prog 82 #[.pointer (some ⟨b, 0, none⟩)] w (fun e w' => e = .returned (.tuple #[tkV t, .nilIface]) ∧ Below w.heap.size w w') →
      Calls Tryz.prog 82 #[.pointer (some ⟨b, 0, none⟩)] w (fun e w' => NextR A O w e w' ∧ Below w.heap.size w w') := by
    intro O t i h hc
    refine hc.mono ?_
    rintro e w1 ⟨he, hb⟩
    exact ⟨(nextR_ok h).2 he, hb⟩
  have bad : ∀ {O : Nat × Nat × Tk} {t : Tk} {i k : Nat}, O = (k + 1, i, t) → Calls Tryz.prog 82 #[.pointer (some ⟨b, 0, none⟩)] w (fun e w' => NextBad A (k + 1) i w e w' ∧ Below w.heap.size w w') →
      Calls Tryz.prog 82 #[.pointer (some ⟨b, 0, none⟩)] w (fun e w' => NextR A O w e w' ∧ Below w.heap.size w w') := by
    intro O t i k h hc
    refine hc.mono ?_
    rintro e w1 ⟨he, hb⟩
    exact ⟨(nextR_bad h).2 he, hb⟩
  have hone : oneAt s p = oneAt s p := rfl
  conv at hone => rhs; unfold oneAt
  simp only at hone
  by_cases h1 : signK (bAt s p) ≠ 0
  · rw [if_pos h1] at hone
    exact out hone (next_sign s p b w hs hsc hp h1)
  rw [if_neg h1] at hone
  by_cases h2 : bAt s p = 110
  · rw [if_pos h2] at hone
    by_cases hq : bAt s (p + 1) = 117 ∧ bAt s (p + 2) = 108 ∧ bAt s (p + 3) = 108
    · rw [if_pos hq] at hone
      exact out hone (next_null s p b w hs hsc hp h2 ((pre_null s p h2).2 hq))
    · rw [if_neg hq] at hone
      exact bad hone (next_null_bad s p b w hE hs hsc hp h2 (by rw [Bool.eq_false_iff]; exact fun h => hq ((pre_null s p h2).1 h)))
  rw [if_neg h2] at hone
  by_cases h3 : bAt s p = 116
  · rw [if_pos h3] at hone
    by_cases hq : bAt s (p + 1) = 114 ∧ bAt s (p + 2) = 117 ∧ bAt s (p + 3) = 101
    · rw [if_pos hq] at hone
      exact out hone (next_true s p b w hs hsc hp h3 ((pre_true s p h3).2 hq))
    · rw [if_neg hq] at hone
      exact bad hone (next_true_bad s p b w hE hs hsc hp h3 (by rw [Bool.eq_false_iff]; exact fun h => hq ((pre_true s p h3).1 h)))
  rw [if_neg h3] at hone
  by_cases h4 : bAt s p = 102
  · rw [if_pos h4] at hone
    by_cases hq : bAt s (p + 1) = 97 ∧ bAt s (p + 2) = 108 ∧ bAt s (p + 3) = 115 ∧ bAt s (p + 4) = 101
    · rw [if_pos hq] at hone
      exact out hone (next_false s p b w hs hsc hp h4 ((pre_false s p h4).2 hq))
    · rw [if_neg hq] at hone
      exact bad hone (next_false_bad s p b w hE hs hsc hp h4 (by rw [Bool.eq_false_iff]; exact fun h => hq ((pre_false s p h4).1 h)))
  rw [if_neg h4] at hone
  have hk : signK (bAt s p) = 0 := by omega
  have num : Calls Tryz.prog 82 #[.pointer (some ⟨b, 0, none⟩)] w (fun e w' => (if (numAt s p).1 = true then e = .returned (.tuple #[tkV ⟨4, p, (numAt s p).2, noS⟩, .nilIface]) else NextBad A 2 (numAt s p).2 w e w') ∧ Below w.heap.size w w') →
      (oneAt s p = if (numAt s p).1 = true then (0, 0, ⟨4, p, (numAt s p).2, noS⟩) else (2, (numAt s p).2, ⟨0, 0, 0, noS⟩)) → Calls Tryz.prog 82 #[.pointer (some ⟨b, 0, none⟩)] w fun e w' => NextR A (oneAt s p) w e w' ∧ Below w.heap.size w w' := by
    intro hc ho
    by_cases hn : (numAt s p).1 = true
    · rw [if_pos hn] at ho
      refine out ho (hc.mono ?_)
      rintro e w1 ⟨he, hb⟩
      rw [if_pos hn] at he
      exact ⟨he, hb⟩
    · rw [if_neg hn] at ho
      refine bad ho (hc.mono ?_)
      rintro e w1 ⟨he, hb⟩
      rw [if_neg hn] at he
      exact ⟨he, hb⟩
  by_cases h5 : bAt s p = 45
  · rw [if_pos (Or.inl h5)] at hone
    exact num (next_num_minus s p b w hE hs hsc hp hk ⟨h2, h3, h4⟩ h5 trivial) hone
  by_cases h6 : isD (bAt s p) = true
  · rw [if_pos (Or.inr h6)] at hone
    exact num (next_num_digit s p b w hE hs hsc hp hk ⟨h2, h3, h4⟩ h5 h6) hone
  rw [if_neg (fun h => h.elim h5 h6)] at hone
  by_cases h7 : bAt s p = 34
  · rw [if_pos h7] at hone
    have hc := next_text (A := A) (B := B) s p b w hE hs hsc hp (brk_ascii hv hp (by omega)) h7
    cases hk1 : (qAt s (p + 1) []).1 with
    | zero =>
      rw [if_pos hk1] at hone
      refine out hone (hc.mono ?_)
      rintro e w1 ⟨he, hb⟩
      rw [if_pos hk1] at he
      exact ⟨he, hb⟩
    | succ k =>
      rw [if_neg (by omega), hk1] at hone
      refine bad hone (hc.mono ?_)
      rintro e w1 ⟨he, hb⟩
      rw [if_neg (by omega), hk1] at he
      exact ⟨he, hb⟩
  · rw [if_neg h7] at hone
    exact bad hone (next_else s p b w hE hs hsc hp hk ⟨h2, h3, h4⟩ h5 (by rw [Bool.eq_false_iff]; exact h6) h7)

end Go.Proofs.YtibopkodoidjoaaGreatDoor
