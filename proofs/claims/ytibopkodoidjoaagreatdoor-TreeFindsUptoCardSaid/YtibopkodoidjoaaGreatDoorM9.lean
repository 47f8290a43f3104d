/- The reference's tree: the reader's objects, walked. -/
import Derived.Test.YtibopkodoidjoaaGreatDoorM7

namespace Go.Proofs.YtibopkodoidjoaaGreatDoor
open Go Go.RowKit

set_option linter.unusedSimpArgs false in
set_option maxHeartbeats 8000000 in
set_option maxRecDepth 100000 in
theorem rmembers_calls {base : Nat} {s : ByteArray} {v : Value} {ts : List Tk} (f : Nat) (hV : ∀ f', f' < f → RVC base s v ts f') (deep p pl P b : Nat) (w : World) (hW : RdW base s v ts p pl 0 b w) (hd : deep < 64) (hl : ts.length ≤ 1048577)
    (r : PR (List (ByteArray × Nat × Nd))) (hr : r = if kindT ts p = 7 then .ok [] (p + 1) else pM s ts f deep [] p) (hout : r ≠ .out) :
    Calls Tryz.prog 63 #[.pointer (some ⟨b, 0, none⟩), .agg #[.int .i64 0, .int .i64 (P : Int), .bool false, .string ⟨#[]⟩, .slice none 0 0, .slice none 0 0, .slice none 0 0], .int .i64 (deep : Int)] w (PostRM s v ts.length pl P b w r) := by
  have hbl := hW.lt
  replace hV := Lib.hid hV
  replace hr := Lib.hid hr
  replace hout := Lib.hid hout
  by_cases h7 : kindT ts p = 7
  · have N := Lib.hid (fun w hW => peek_calls (base := base) (v := v) (ts := ts) s p pl 0 b w hW)
    rw [h7] at N
    have hpb : (p : Int) + 1 ≤ 3518437208884 := by have := hW.hl; have := hW.hp; omega
    replace hW := Lib.hid hW
    replace hl := Lib.hid hl
    replace h7 := Lib.hid h7
    go_enter Tryz.func63, Tryz.ntmps63
    (go_wp2_with fail; repeat (any_goals (go_quiet (fail); go_wp2_with fail)))
    refine (N.out _ (hW.out.next (by repeat (first | assumption | exact Below.refl _ _ | apply Below.drew | apply below_drewN | apply balloc | (refine Below.setCell ?_ (by first | omega | (simp <;> omega)) _))))).mono ?_
    rintro e w1 ⟨rfl, hb⟩
    have hb1 : Below w.heap.size w w1 := bcall (by repeat (first | assumption | exact Below.refl _ _ | apply Below.drew | apply below_drewN | apply balloc | (refine Below.setCell ?_ (by first | omega | (simp <;> omega)) _))) hb
    have hn := box_next (box_next (heap_alloc_new w (.cells #[.int .i64 5, .int .i64 (P : Int), .bool false, .string ⟨#[]⟩, .slice none 0 0, .slice none 0 0, .slice none 0 0] 33 (0, 0))) (balloc (Below.refl _ _))) hb
    have hx := boxed hb
    rw [show ∀ o, (w.alloc o).heap.size = w.heap.size + 1 from fun o => by simp] at hx
    clear hb
    have hW1 := hW.out.next hb1
    have x2 := hW1.rd.c2
    have f2 := freeB hW1.rd 2
    have hbl1 := hW1.lt
    have hn0 := ltB hn
    have hx0 := ltB hx
    have hz1 : b ≠ w.heap.size := by omega
    have hz2 : b ≠ w.heap.size + 1 := by omega
    have hz3 : w.heap.size ≠ w.heap.size + 1 := by omega
    have hz4 : w.heap.size + 1 ≠ w.heap.size := by omega
    replace hW1 := Lib.hid hW1
    have zc0 := cellB hn 0 rfl
    have zc1 := cellB hn 1 rfl
    have zc2 := cellB hn 2 rfl
    have zc3 := cellB hn 3 rfl
    have zc4 := cellB hn 4 rfl
    have zc5 := cellB hn 5 rfl
    have zc6 := cellB hn 6 rfl
    have zf0 := freeB hn 0
    have zf1 := freeB hn 1
    have zf2 := freeB hn 2
    have zf3 := freeB hn 3
    have zf4 := freeB hn 4
    have zf5 := freeB hn 5
    have zf6 := freeB hn 6
    have yc0 := cellB hx 0 rfl
    have yc1 := cellB hx 1 rfl
    have yc2 := cellB hx 2 rfl
    have yc3 := cellB hx 3 rfl
    have yc4 := cellB hx 4 rfl
    have yc5 := cellB hx 5 rfl
    have yc6 := cellB hx 6 rfl
    have yf0 := freeB hx 0
    have yf1 := freeB hx 1
    have yf2 := freeB hx 2
    have yf3 := freeB hx 3
    have yf4 := freeB hx 4
    have yf5 := freeB hx 5
    have yf6 := freeB hx 6
    go_wp2_with fail
    have hr1 : r = .ok [] (p + 1) := by rw [hr.out, if_pos h7.out]
    have h1 := other (i := 2) (u := .int .i64 ((p : Int) + 1)) hx hz2.symm
    have h3 := RdB.set2 (q := p + 1) hW1.out.rd
    have h4 := grown_trans (grown_of_below (r := some b) hb1) (grown_set _ b 2 (.int .i64 ((p : Int) + 1)))
    obtain ⟨e1, e2, e3⟩ := rd_end h1 h4 h3 hz2 (Nat.le_succ _) (.int .i64 5) (.int .i64 (P : Int)) (.bool false) (.string ⟨#[]⟩) (.slice none 0 0) (.slice none 0 0) (.slice none 0 0)
    refine bodyPost_ret (results_cell_row rfl _ _ (w.heap.size + 1) 33 _ (0, 0) _ rfl e1 Tryz.underlying33 rfl info7) rfl ⟨e2, _, _, _, rfl, ?_⟩
    rw [hr1]
    exact ⟨[], R3.nil _ _, RKids.nil _ _ _, rfl, e3⟩
  · have hr1 : r = pM s ts f deep [] p := by rw [hr.out, if_neg h7]
    have N := Lib.hid (fun w hW => peek_calls (base := base) (v := v) (ts := ts) s p pl 0 b w hW)
    have hK1 : ((kindT ts p : Int) == 7) = false := by simp; omega
    have hK2 : ¬ (kindT ts p : Int) = 7 := by omega
    have hple := hW.hp
    generalize kindT ts p = K at *
    replace hr1 := Lib.hid hr1
    replace hW := Lib.hid hW
    go_enter Tryz.func63, Tryz.ntmps63
    (go_wp2_with fail; repeat (any_goals (go_quiet (fail); go_wp2_with fail)))
    refine (N.out _ (hW.out.next (by repeat (first | assumption | exact Below.refl _ _ | apply Below.drew | apply below_drewN | apply balloc | (refine Below.setCell ?_ (by first | omega | (simp <;> omega)) _))))).mono ?_
    rintro e w1 ⟨rfl, hb⟩
    have hb1 : Below w.heap.size w w1 := bcall (by repeat (first | assumption | exact Below.refl _ _ | apply Below.drew | apply below_drewN | apply balloc | (refine Below.setCell ?_ (by first | omega | (simp <;> omega)) _))) hb
    have hn := box_next (box_next (heap_alloc_new w (.cells #[.int .i64 5, .int .i64 (P : Int), .bool false, .string ⟨#[]⟩, .slice none 0 0, .slice none 0 0, .slice none 0 0] 33 (0, 0))) (balloc (Below.refl _ _))) hb
    have hx := boxed hb
    rw [show ∀ o, (w.alloc o).heap.size = w.heap.size + 1 from fun o => by simp] at hx
    clear hb
    have hW1 := Lib.hid (hW.out.next hb1)
    replace hn := Lib.hid hn
    replace hx := Lib.hid hx
    go_wp2_with fail
    go_loopg [] f (fun kq wr => ∃ (q plx k : Nat) (vi vk vp : Value), Hid (wr.heap[w.heap.size]? = some (.cells #[.int .i64 5, .int .i64 (P : Int), .bool false, .string ⟨#[]⟩, vi, vk, vp] 33 (0, 0))) ∧ Hid (wr.heap[w.heap.size + 1]? = some (.cells #[.int .i64 0, .int .i64 0, .bool false, .string ⟨#[]⟩, .slice none 0 0, .slice none 0 0, .slice none 0 0] 33 (0, 0))) ∧ Hid (RdB s v q plx k b wr) ∧ Hid (w.grownBy wr (some b)) ∧ Hid (q ≤ ts.length ∧ kq ≤ f) ∧ ((k = 0 ∧ Hid (plx = pl ∧ ∃ cs : List RKid, R3 (w.heap.size + 2) wr vi vk vp cs ∧ RKids (w.heap.size + 2) wr [vi.ownBlock, vk.ownBlock, vp.ownBlock] cs ∧ cs.length ≤ q ∧ comb (cs.map RKid.mem) (pM s ts kq deep (cs.map RKid.key) q) = r)) ∨ (k ≠ 0 ∧ Hid ((isSl vi ∧ isSl vk ∧ isSl vp) ∧ r = .err k plx))))
    case atStart => exact ⟨p, pl, 0, _, _, _, hn, hx, Lib.hid hW1.out.rd, Lib.hid (grown_of_below hb1), Lib.hid ⟨hple, Nat.le_refl _⟩, Or.inl ⟨rfl, Lib.hid ⟨rfl, [], R3.nil _ _, RKids.nil _ _ _, Nat.zero_le _, by rw [hr1.out]; exact comb_nil _⟩⟩⟩
    case round =>
      obtain ⟨q, plx, k, vi, vk, vp, hn, hx, hrd, hg, hq, hm⟩ := hrel
      clear N hW1 hK1 hK2 hb1
      have x4 := hrd.out.c4
      have hbr : b < wr.heap.size := ltB hrd.out
      have hn0 := ltB hn.out
      have hx0 := ltB hx.out
      have hz1 : b ≠ w.heap.size := by omega
      have hz2 : b ≠ w.heap.size + 1 := by omega
      have hz3 : w.heap.size ≠ w.heap.size + 1 := by omega
      have hz4 : w.heap.size + 1 ≠ w.heap.size := by omega
      rcases hm with ⟨rfl, hm⟩ | ⟨hk0, hm⟩
      · have hpo := Lib.hid (hW.out.step hg.out hrd.out hq.out.1)
        obtain ⟨rfl, cs, hrow, hkids, hcl, hgo⟩ := hm.out
        cases gk with
        | zero => exact absurd (hgo.symm.trans (by rw [pM]; rfl)) hout.out
        | succ f1 =>
          rw [pM] at hgo
          have HC := Lib.hid (fun w hW => here_calls (base := base) (v := v) (ts := ts) s q plx 0 b w hW)
          obtain ⟨P1, hP1⟩ : ∃ P1, P1 = placeT s ts q := ⟨_, rfl⟩
          rw [← hP1] at HC hgo
          replace hP1 := Lib.hid hP1
          replace hrow := Lib.hid hrow
          replace hkids := Lib.hid hkids
          replace hgo := Lib.hid hgo
          clear hm hr1 hr
          go_wp2_with fail
          refine (HC.out _ hpo.out).mono ?_
          rintro e w1 ⟨rfl, hb⟩
          have hn1 := Lib.hid (box_next hn.out hb)
          have hx1 := Lib.hid (box_next hx.out hb)
          have hpo1 := Lib.hid (hpo.out.next hb)
          have hg1 := Lib.hid (grown_belowR hg.out hb)
          have hrow1 := Lib.hid (hrow.out.below hb)
          have hkids1 := Lib.hid (hkids.out.below hb)
          clear hb x4 hn hx hrd hpo hg hrow hkids HC
          by_cases k5 : kindT ts q = 5
          · have hgo5 := hgo.out
            rw [if_pos k5] at hgo5
            replace hgo5 := Lib.hid hgo5
            clear hgo
            have hpl : q < ts.length := kindT_lt (by omega)
            have hT : ts[q]? = some ts[q] := List.getElem?_eq_getElem _
            generalize ts[q] = T at hT
            go_wp2_with fail
            refine (want_ok s q plx b 5 _ hpo1.out k5 (by decide)).mono ?_
            rintro e w2 ⟨rfl, hW2, hg8⟩
            have hn2 := Lib.hid ((hg8.block _ (ltB hn1.out) (by intro e; cases e; exact hz1 rfl)).trans hn1.out)
            have hx2 := Lib.hid ((hg8.block _ (ltB hx1.out) (by intro e; cases e; exact hz2 rfl)).trans hx1.out)
            have hg2 := Lib.hid (grown_trans hg1.out hg8)
            have hrow2 := Lib.hid (hrow1.out.grown hg8 (by omega))
            have hkids2 := Lib.hid (hkids1.out.other hg8 (by omega))
            clear hg8 hn1 hx1 hpo1 hg1 hrow1 hkids1 k5
            have x1 := hW2.rd.c1
            have x2 := hW2.rd.c2
            have x4 := hW2.rd.c4
            have hbr2 := hW2.lt
            rcases hW2.own.form with ⟨hnil, rfl⟩ | ⟨tg, tcap, rfl, htbg, htgl, htnl, htcm⟩
            · rw [hnil] at hpl; exact absurd hpl (Nat.not_lt_zero _)
            obtain ⟨t0, t1, t2, t3⟩ := hW2.own.at hT
            rw [textT_eq hT] at hgo5
            obtain ⟨tn, htn⟩ : ∃ tn, tn = ts.length := ⟨_, rfl⟩
            have hpl' : (q : Int) < (tn : Int) := by omega
            have hpb : (q : Int) + 1 ≤ 3518437208884 := by have := hW2.hl; omega
            unfold maxLen at htcm
            have hlm : cs.length ≤ 1048577 := by omega
            rw [← htn] at x1 htnl
            obtain ⟨key, hkey⟩ : ∃ key, key = T.text := ⟨_, rfl⟩
            rw [← hkey] at hgo5 t3
            replace hW2 := Lib.hid hW2
            replace htn := Lib.hid htn
            replace hT := Lib.hid hT
            replace hkey := Lib.hid hkey
            obtain ⟨ka, kc, hvk⟩ := rowForm hrow2.out.k
            subst hvk
            have z5 := cellB hn2.out 5 rfl
            obtain ⟨m, hm⟩ : ∃ m, m = cs.length := ⟨_, rfl⟩
            rw [← hm] at z5 hlm
            replace hm := Lib.hid hm
            go_wp2_with fail
            go_region
            go_wp2_with fail
            go_loopw [54] (fun v54 wq => ∃ (j kd plq : Nat), j ≤ m ∧ v54 = .int .i64 (j : Int) ∧ Hid (RdB s (.slice (some ⟨tg, 0, none⟩) tn tcap) (q + 1) plq kd b wq) ∧ Hid (w2.grownBy wq (some b)) ∧ Hid ((kd = 0 ∧ plq = plx ∧ ∀ i c, i < j → cs[i]? = some c → c.key ≠ key) ∨ (kd = 6 ∧ plq = P1 ∧ key ∈ cs.map RKid.key))) (fun v _ => m - (intOf v).toNat)
            case atStart => exact ⟨0, 0, plx, Nat.zero_le _, rfl, Lib.hid (drewH (by have := hW2.out.rd; rw [← htn.out] at this; exact this)), Lib.hid (grown_drew (grown_refl _ _)), Lib.hid (Or.inl ⟨rfl, rfl, fun i c h => absurd h (Nat.not_lt_zero _)⟩)⟩
            case round =>
              obtain ⟨j, kd, plq, hjm, rfl, hrdq, hgq, hst⟩ := hrel
              clear x1 x2 x4 z5 t0 t1 t2 t3
              have hbq : b < wr.heap.size := ltB hrdq.out
              by_cases hjl : j < m
              · have hjI : (j : Int) < (m : Int) := by omega
                obtain ⟨c, hcj⟩ : ∃ c, cs[j]? = some c := ⟨cs[j]'(by rw [← hm.out]; exact hjl), List.getElem?_eq_getElem _⟩
                obtain ⟨kg, rfl⟩ : ∃ kg, ka = some ⟨kg, 0, none⟩ := by
                  rcases rowForm2 hrow2.out.k with ⟨h, _⟩ | ⟨g, cap, h, _⟩
                  · have := hm.out; omega
                  · cases h; exact ⟨g, rfl⟩
                have c0 := rowCells (row_grown hrow2.out.k hgq.out (by omega)) (j := j) (u := .string c.key) (by rw [List.getElem?_map, hcj]; rfl)
                by_cases he : c.key = key
                · rw [he] at c0
                  have hmem : key ∈ cs.map RKid.key := List.mem_map.2 ⟨c, List.mem_of_getElem? hcj, he⟩
                  replace hmem := Lib.hid hmem
                  replace he := Lib.hid he
                  replace hcj := Lib.hid hcj
                  go_wp2_with fail
                  refine (rfail_u s _ (q + 1) plq kd b P1 6 _ hrdq.out).mono ?_
                  rintro e w3 ⟨rfl, hg3, pl3, k3, hr3, hs3⟩
                  have hst3 : Hid ((k3 = 0 ∧ pl3 = plx ∧ ∀ i c, i < j + 1 → cs[i]? = some c → c.key ≠ key) ∨ (k3 = 6 ∧ pl3 = P1 ∧ key ∈ cs.map RKid.key)) := Lib.hid (by
                    rcases hs3 with ⟨h1, rfl, rfl⟩ | ⟨h1, rfl, rfl⟩
                    · rcases hst.out with ⟨h2, _⟩ | ⟨h2, h3, h4⟩
                      · exact absurd h2 h1
                      · exact Or.inr ⟨h2, h3, h4⟩
                    · exact Or.inr ⟨rfl, rfl, hmem.out⟩)
                  have hg4 := Lib.hid (grown_trans hgq.out hg3)
                  replace hr3 := Lib.hid hr3
                  clear hs3 hg3 hst hgq hrdq
                  go_wp2_with fail
                  go_roundw
                  case measure => simp [intOf]; omega
                  case rel => exact ⟨j + 1, k3, pl3, by omega, by go_num, hr3, hg4, hst3⟩
                · have hne := text_ne he
                  have hst3 : Hid ((kd = 0 ∧ plq = plx ∧ ∀ i c, i < j + 1 → cs[i]? = some c → c.key ≠ key) ∨ (kd = 6 ∧ plq = P1 ∧ key ∈ cs.map RKid.key)) := Lib.hid (by
                    rcases hst.out with ⟨h2, h3, h4⟩ | h2
                    · refine Or.inl ⟨h2, h3, fun i c' hi hc' => ?_⟩
                      rcases Nat.lt_or_ge i j with h | h
                      · exact h4 i c' h hc'
                      · have : i = j := by omega
                        subst this
                        rw [hcj] at hc'
                        cases hc'
                        exact he
                    · exact Or.inr h2)
                  replace he := Lib.hid he
                  replace hcj := Lib.hid hcj
                  clear hst
                  generalize c.key = ck at *
                  go_wp2_with fail
                  go_roundw
                  case measure => simp [intOf]; omega
                  case rel => exact ⟨j + 1, kd, plq, by omega, by go_num, hrdq, hgq, hst3⟩
              · obtain rfl : m = j := by omega
                have hjI : ¬ (m : Int) < (m : Int) := by omega
                obtain ⟨MM, hMM⟩ : ∃ MM : PR (List (ByteArray × Nat × Nd)), MM = (match pV s ts f1 (deep + 1) (q + 2) with
                    | .ok x q => match rest s ts 7 q with
                      | .ok true q' => .ok [(key, P1, x)] q'
                      | .ok false q' => match pM s ts f1 deep (cs.map RKid.key ++ [key]) q' with
                        | .ok xs q'' => .ok ((key, P1, x) :: xs) q''
                        | .err k pl => .err k pl
                        | .out => .out
                      | .err k pl => .err k pl
                      | .out => .out
                    | .err k pl => .err k pl
                    | .out => .out) := ⟨_, rfl⟩
                have hst2 : (kd = 0 ∧ plq = plx ∧ comb (cs.map RKid.mem) (if kindT ts (q + 1) = 10 then MM else .err 2 (placeT s ts (q + 1))) = r) ∨ (kd ≠ 0 ∧ r = .err kd plq) := by
                  have h5 : comb (cs.map RKid.mem) (if knows (cs.map RKid.key) key = true then .err 6 P1 else if kindT ts (q + 1) = 10 then MM else .err 2 (placeT s ts (q + 1))) = r := by rw [hMM]; exact hgo5.out
                  rcases hst.out with ⟨rfl, rfl, hno⟩ | ⟨rfl, rfl, hmem⟩
                  · rw [if_neg (by rw [knows_iff]; intro h; obtain ⟨c, hc, h2⟩ := List.mem_map.1 h; obtain ⟨i, hi, hic⟩ := List.getElem_of_mem hc; exact hno i c (by rw [hm.out]; exact hi) (by rw [List.getElem?_eq_getElem hi, hic]) h2)] at h5
                    exact Or.inl ⟨rfl, rfl, h5⟩
                  · rw [if_pos ((knows_iff _ _).2 hmem)] at h5
                    exact Or.inr ⟨by decide, h5.symm⟩
                replace hMM := Lib.hid hMM
                have hWq := hW2.out.step hgq.out (by have := hrdq.out; rw [htn.out] at this; exact this) (show q + 1 ≤ ts.length by have := htn.out; omega)
                replace hst2 := Lib.hid hst2
                clear hst hgo5
                go_wp2_with fail
                refine (want_u s (q + 1) plq kd b 10 _ hWq (by decide)).mono ?_
                rintro e w3 ⟨rfl, hg3, q2, pl2, k2, hW3, hs3⟩
                have hst3 : (k2 = 0 ∧ q2 = q + 2 ∧ pl2 = plx ∧ comb (cs.map RKid.mem) MM = r) ∨ (k2 ≠ 0 ∧ r = .err k2 pl2) := by
                  rcases hs3 with ⟨h1, rfl, rfl, rfl⟩ | ⟨h1, h2, rfl, rfl, rfl⟩ | ⟨h1, h2, rfl, rfl, rfl⟩
                  · rcases hst2.out with ⟨h3, _⟩ | h3
                    · exact absurd h3 h1
                    · exact Or.inr h3
                  · rcases hst2.out with ⟨h3, h4, h5⟩ | ⟨h3, _⟩
                    · rw [if_pos h2] at h5
                      exact Or.inl ⟨rfl, rfl, h4, h5⟩
                    · exact absurd h1 h3
                  · rcases hst2.out with ⟨h3, h4, h5⟩ | ⟨h3, _⟩
                    · rw [if_neg h2] at h5
                      exact Or.inr ⟨by decide, h5.symm⟩
                    · exact absurd h1 h3
                have hgA := grown_trans hgq.out hg3
                have hn3 := Lib.hid ((hgA.block _ (ltB hn2.out) (by intro e; cases e; exact hz1 rfl)).trans hn2.out)
                have hx3 := Lib.hid ((hgA.block _ (ltB hx2.out) (by intro e; cases e; exact hz2 rfl)).trans hx2.out)
                have hgB := Lib.hid (grown_trans hg2.out hgA)
                have hrow3 := Lib.hid (hrow2.out.grown hgA (by omega))
                have hkids3 := Lib.hid (hkids2.out.other hgA (by omega))
                clear hgA hgq hg3 hn2 hx2 hg2 hrow2 hkids2 hs3 hst2 hrdq hWq
                have hout2 : k2 = 0 → pV s ts f1 (deep + 1) q2 ≠ .out := by
                  intro h h2
                  rcases hst3 with ⟨_, rfl, _, h5⟩ | ⟨h3, _⟩
                  · rw [hMM.out, h2] at h5
                    exact hout.out h5.symm
                  · exact h3 h
                have V := Lib.hid (value_u (hV.out f1 (by have := hq.out.2; omega)) (deep + 1) q2 pl2 k2 b w3 hout2 (by omega) hW3)
                have hd1 : ((deep + 1 : Nat) : Int) = (deep : Int) + 1 := by omega
                rw [hd1] at V
                replace hst3 := Lib.hid hst3
                replace hout2 := Lib.hid hout2
                have hbr3 := hW3.lt
                have hz5 : w.heap.size + 2 ≤ w3.heap.size := by have := ltB hx3.out; omega
                replace hW3 := Lib.hid hW3
                go_wp2_with fail
                refine V.out.mono ?_
                rintro e w4 ⟨hg4, m4, pn4, f4, t4, vi4, vk4, vp4, q4, pl4, k4, rfl, ⟨⟨a1, n1, c1, rfl⟩, ⟨a2, n2, c2, rfl⟩, ⟨a3, n3, c3, rfl⟩⟩, hq4, hr4, hs4⟩
                have hst4 : (k4 = 0 ∧ pl4 = plx ∧ q + 2 < q4 ∧ ∃ x, OwnR w4 w3.heap.size w4.heap.size (rdC m4 pn4 f4 t4 (.slice a1 n1 c1) (.slice a2 n2 c2) (.slice a3 n3 c3)) x ∧ comb (cs.map RKid.mem) (match rest s ts 7 q4 with
                      | .ok true q' => .ok [(key, P1, x)] q'
                      | .ok false q' => match pM s ts f1 deep (cs.map RKid.key ++ [key]) q' with
                        | .ok xs q'' => .ok ((key, P1, x) :: xs) q''
                        | .err k pl => .err k pl
                        | .out => .out
                      | .err k pl => .err k pl
                      | .out => .out) = r) ∨ (k4 ≠ 0 ∧ r = .err k4 pl4) := by
                  rcases hs4 with ⟨h1, rfl, rfl⟩ | ⟨h1, h2⟩
                  · rcases hst3.out with ⟨h3, _⟩ | ⟨h3, h4⟩
                    · exact absurd h3 h1
                    · exact Or.inr ⟨h3, h4⟩
                  · rcases hst3.out with ⟨_, rfl, rfl, h5⟩ | ⟨h3, _⟩
                    · have fit := (p_goes s ts f1).1 (deep + 1) (q + 2)
                      rw [hMM.out] at h5
                      cases hR : pV s ts f1 (deep + 1) (q + 2) with
                      | out => exact absurd hR (hout2.out h1)
                      | ok x q0 =>
                        rw [hR] at h2 h5 fit
                        obtain ⟨rfl, rfl, rfl, hN⟩ := h2
                        exact Or.inl ⟨rfl, rfl, fit.1, x, hN, h5⟩
                      | err k0 p0 =>
                        rw [hR] at h2 h5 fit
                        obtain ⟨rfl, rfl⟩ := h2
                        exact Or.inr ⟨by have : k4 = 2 ∨ k4 = 3 ∨ k4 = 6 := fit; omega, h5.symm⟩
                    · exact absurd h1 h3
                have hn4 := (hg4.block _ (ltB hn3.out) (by intro e; cases e; exact hz1 rfl)).trans hn3.out
                have hx4 := Lib.hid ((hg4.block _ (ltB hx3.out) (by intro e; cases e; exact hz2 rfl)).trans hx3.out)
                have hgC := Lib.hid (grown_trans hgB.out hg4)
                have hrow4 := Lib.hid (hrow3.out.grown hg4 (by omega))
                have hkids4 := Lib.hid (hkids3.out.other hg4 (by omega))
                have hown3 : (∀ o ∈ [vi.ownBlock, (Value.slice ka cs.length kc).ownBlock, vp.ownBlock], ∀ k, o = some k → k < w3.heap.size) := by
                  intro o ho k e
                  simp only [List.mem_cons, List.not_mem_nil, or_false] at ho
                  rcases ho with rfl | rfl | rfl
                  · exact (hrow3.out.i.lt k e).2
                  · exact (hrow3.out.k.lt k e).2
                  · exact (hrow3.out.p.lt k e).2
                have hz6 := hg4.size
                replace hown3 := Lib.hid hown3
                replace hst4 := Lib.hid hst4
                have hr4 := Lib.hid hr4
                clear hg4 hs4 hst3 hn3 hx3 hgB hrow3 hkids3 hout2 hW3 V hMM MM
                rw [rdC_arr]
                have hcell6 := heap_alloc_new w4 (.cells #[.int .i64 (m4 : Int), .int .i64 (pn4 : Int), .bool f4, .string t4, .slice a1 n1 c1, .slice a2 n2 c2, .slice a3 n3 c3] 33 (0, 0))
                have hB6 : Below w4.heap.size w4 (w4.alloc (.cells #[.int .i64 (m4 : Int), .int .i64 (pn4 : Int), .bool f4, .string t4, .slice a1 n1 c1, .slice a2 n2 c2, .slice a3 n3 c3] 33 (0, 0))) := balloc (Below.refl _ _)
                have hsz6 : Hid (w4.heap.size + 1 = (w4.alloc (.cells #[.int .i64 (m4 : Int), .int .i64 (pn4 : Int), .bool f4, .string t4, .slice a1 n1 c1, .slice a2 n2 c2, .slice a3 n3 c3] 33 (0, 0))).heap.size) := Lib.hid (by simp)
                go_upto_region 19 with fail
                generalize w4.alloc (.cells #[.int .i64 (m4 : Int), .int .i64 (pn4 : Int), .bool f4, .string t4, .slice a1 n1 c1, .slice a2 n2 c2, .slice a3 n3 c3] 33 (0, 0)) = w6 at hcell6 hB6 hsz6 ⊢
                have hn6 := Lib.hid (box_next hn4 hB6)
                have hx6 := Lib.hid (box_next hx4.out hB6)
                have hr6 := Lib.hid (hr4.out.next hB6)
                have hgD := Lib.hid (grown_belowR hgC.out hB6)
                have hrow6 := Lib.hid (hrow4.out.below hB6)
                replace hcell6 := Lib.hid hcell6
                replace hB6 := Lib.hid hB6
                clear hn4 hx4 hr4 hgC hrow4
                go_cut [] (fun wx => ∃ (vi' vk' vp' : Value), Hid (wx.heap[w.heap.size]? = some (.cells #[.int .i64 5, .int .i64 (P : Int), .bool false, .string ⟨#[]⟩, vi', vk', vp'] 33 (0, 0))) ∧ Hid (A3 (w.heap.size + 2) wx vi' vk' vp' m cs key P1 (rdC m4 pn4 f4 t4 (.slice a1 n1 c1) (.slice a2 n2 c2) (.slice a3 n3 c3))) ∧ Hid (GB w6 wx [some w.heap.size, (Value.slice ka m kc).ownBlock, vp.ownBlock, vi.ownBlock]) ∧ Hid ((vi'.ownBlock = vi.ownBlock ∨ ∃ g, vi'.ownBlock = some g ∧ w6.heap.size ≤ g) ∧ (vk'.ownBlock = (Value.slice ka m kc).ownBlock ∨ ∃ g, vk'.ownBlock = some g ∧ w6.heap.size ≤ g) ∧ (vp'.ownBlock = vp.ownBlock ∨ ∃ g, vp'.ownBlock = some g ∧ w6.heap.size ≤ g)))
                case first =>
                  obtain ⟨i0, i1, i2, rfl⟩ := ownsRow_sl hrow6.out.i
                  obtain ⟨p0, p1, p2, rfl⟩ := ownsRow_sl hrow6.out.p
                  have hX := drewH hcell6.out
                  have hN := drewH hn6.out
                  have hrk := drewR hrow6.out.k
                  have hrp := drewR hrow6.out.p
                  have hri := drewR hrow6.out.i
                  have hgb : GB w6 w6.drew [some w.heap.size, (Value.slice ka cs.length kc).ownBlock, (Value.slice p0 p1 p2).ownBlock, (Value.slice i0 i1 i2).ownBlock] := ⟨rfl, rfl, rfl, Nat.le_refl _, fun _ _ _ => rfl⟩
                  have hlm1 : m + 1 ≤ 2097152 := by omega
                  rw [← hm.out] at hN hrk hrp hri hgb
                  have hnel : ∀ o ∈ [(Value.slice ka m kc).ownBlock, (Value.slice p0 p1 p2).ownBlock, (Value.slice i0 i1 i2).ownBlock], ∀ k, o = some k → w.heap.size + 2 ≤ k ∧ k < w3.heap.size := by
                    rw [hm.out]
                    intro o ho k e
                    simp only [List.mem_cons, List.not_mem_nil, or_false] at ho
                    rcases ho with rfl | rfl | rfl
                    · exact ⟨(hrow6.out.k.lt k e).1, hown3.out _ (by simp) k e⟩
                    · exact ⟨(hrow6.out.p.lt k e).1, hown3.out _ (by simp) k e⟩
                    · exact ⟨(hrow6.out.i.lt k e).1, hown3.out _ (by simp) k e⟩
                  have hzX : w4.heap.size ≠ w.heap.size := by omega
                  have honeK : ∀ u ∈ [Value.string key], u.oneCell' = true := by simp [Value.oneCell']
                  have honeP : ∀ u ∈ [Value.int .i64 (P1 : Int)], u.oneCell' = true := by simp [Value.oneCell']
                  have hone := rdC_one (n := m4) (p := pn4) (f := f4) (t := t4) ⟨a1, n1, c1, rfl⟩ ⟨a2, n2, c2, rfl⟩ ⟨a3, n3, c3, rfl⟩
                  have hszw : w4.heap.size + 1 = w6.heap.size := hsz6.out
                  have hlt2 : w.heap.size < w.heap.size + 2 := by omega
                  have hbs0 : w.heap.size + 2 ≤ w6.heap.size := by omega
                  have hz8 : w3.heap.size ≤ w6.heap.size := by omega
                  clear hn6 hcell6 hrow6 hx6 hr6 hgD hkids4 hB6 hst4 hown3 hm
                  refine wp_region_L 16 (fun b w' => w'.heap[w4.heap.size]? = some (.cells #[.int .i64 (m4 : Int), .int .i64 (pn4 : Int), .bool f4, .string t4, .slice a1 n1 c1, .slice a2 n2 c2, .slice a3 n3 c3] 33 (0, 0)) ∧ (b = false → w'.heap[w.heap.size]? = some (.cells #[.int .i64 5, .int .i64 (P : Int), .bool false, .string ⟨#[]⟩, (.slice i0 i1 i2), (.slice ka m kc), (.slice p0 p1 p2)] 33 (0, 0)))) (by kernel_rfl) ?_
                  generalize w6.drew = W0 at *
                  refine wpAnyL_take0 (i := 0) (v := ?_) rfl (by decide) (by kernel_rfl) (by kernel_rfl) (by kernel_rfl) (fun _ _ _ h => h) (Or.inl ⟨by rfl, ?_⟩) ⟨hX, fun _ => hN⟩ ?_
                  rotate_left
                  · intro w; go_simp; try with_reducible rfl
                  (try simp only [Act.put, List.setIfInBounds_toArray, List.set_cons_zero, List.set_cons_succ])
                  refine wpAnyL_take1 (i := 1) (v := ?_) rfl (by decide) rfl (by kernel_rfl) (by kernel_rfl) (by kernel_rfl) (by kernel_rfl) (fun _ _ _ h => h) (by kernel_rfl) (Or.inl ⟨by rfl, ?_⟩) ⟨hX, fun _ => hN⟩ ?_
                  rotate_left
                  · intro w0 hw0; have hq4 := cellB (hw0.2 rfl) 4 rfl; have hq5 := cellB (hw0.2 rfl) 5 rfl; have hq6 := cellB (hw0.2 rfl) 6 rfl; clear hw0; go_simp; try with_reducible rfl
                  (try simp only [Act.put, List.setIfInBounds_toArray, List.set_cons_zero, List.set_cons_succ])
                  refine wpAnyL_take0 (i := 2) (v := ?_) rfl (by decide) (by kernel_rfl) (by kernel_rfl) (by kernel_rfl) (fun _ _ _ h => h) (Or.inl ⟨by rfl, ?_⟩) ⟨hX, fun _ => hN⟩ ?_
                  rotate_left
                  · intro w; go_simp; try with_reducible rfl
                  (try simp only [Act.put, List.setIfInBounds_toArray, List.set_cons_zero, List.set_cons_succ])
                  refine wpAnyL_take0 (i := 5) (v := ?_) rfl (by decide) (by kernel_rfl) (by kernel_rfl) (by kernel_rfl) (fun _ _ _ h => h) (Or.inl ⟨by rfl, ?_⟩) ⟨hX, fun _ => hN⟩ ?_
                  rotate_left
                  · intro w; go_simp; try with_reducible rfl
                  (try simp only [Act.put, List.setIfInBounds_toArray, List.set_cons_zero, List.set_cons_succ])
                  refine wpAnyL_take1 (i := 6) (v := ?_) rfl (by decide) rfl (by kernel_rfl) (by kernel_rfl) (by kernel_rfl) (by kernel_rfl) (fun _ _ _ h => h) (by kernel_rfl) (Or.inl ⟨by rfl, ?_⟩) ⟨hX, fun _ => hN⟩ ?_
                  rotate_left
                  · intro w0 hw0; have hq4 := cellB (hw0.2 rfl) 4 rfl; have hq5 := cellB (hw0.2 rfl) 5 rfl; have hq6 := cellB (hw0.2 rfl) 6 rfl; clear hw0; go_simp; try with_reducible rfl
                  (try simp only [Act.put, List.setIfInBounds_toArray, List.set_cons_zero, List.set_cons_succ])
                  refine wpAnyL_take0 (i := 7) (v := ?_) rfl (by decide) (by kernel_rfl) (by kernel_rfl) (by kernel_rfl) (fun _ _ _ h => h) (Or.inl ⟨by rfl, ?_⟩) ⟨hX, fun _ => hN⟩ ?_
                  rotate_left
                  · intro w; go_simp; try with_reducible rfl
                  (try simp only [Act.put, List.setIfInBounds_toArray, List.set_cons_zero, List.set_cons_succ])
                  refine wpAnyL_take0 (i := 10) (v := ?_) rfl (by decide) (by kernel_rfl) (by kernel_rfl) (by kernel_rfl) (fun _ _ _ h => h) (Or.inl ⟨by rfl, ?_⟩) ⟨hX, fun _ => hN⟩ ?_
                  rotate_left
                  · intro w; go_simp; try with_reducible rfl
                  (try simp only [Act.put, List.setIfInBounds_toArray, List.set_cons_zero, List.set_cons_succ])
                  refine wpAnyL_take1 (i := 11) (v := ?_) rfl (by decide) rfl (by kernel_rfl) (by kernel_rfl) (by kernel_rfl) (by kernel_rfl) (fun _ _ _ h => h) (by kernel_rfl) (Or.inl ⟨by rfl, ?_⟩) ⟨hX, fun _ => hN⟩ ?_
                  rotate_left
                  · intro w0 hw0; have hq4 := cellB (hw0.2 rfl) 4 rfl; have hq5 := cellB (hw0.2 rfl) 5 rfl; have hq6 := cellB (hw0.2 rfl) 6 rfl; clear hw0; go_simp; try with_reducible rfl
                  (try simp only [Act.put, List.setIfInBounds_toArray, List.set_cons_zero, List.set_cons_succ])
                  refine wpAnyL_take2 (i := 12) (v := ?_) rfl (by decide) (by kernel_rfl) (by kernel_rfl) (by kernel_rfl) (fun _ _ _ h => h) (fun _ h => ⟨h.1, fun h => by cases h⟩) (Or.inl ⟨by rfl, ?_⟩) ⟨hX, fun _ => hN⟩ ?_
                  rotate_left
                  · intro w0 hw0; have hw1 := hw0.1; clear hw0; have hq0 := cellB hw1 0 rfl; have hq1 := cellB hw1 1 rfl; have hq2 := cellB hw1 2 rfl; have hq3 := cellB hw1 3 rfl; have hq4 := cellB hw1 4 rfl; have hq5 := cellB hw1 5 rfl; have hq6 := cellB hw1 6 rfl; clear hw1; go_simp; try with_reducible rfl
                  (try simp only [Act.put, List.setIfInBounds_toArray, List.set_cons_zero, List.set_cons_succ])
                  refine wpAnyL_ready (rs := [3, 8, 13]) (by kernel_rfl) (by simp) ?_
                  refine AllReadyL.cons rfl (fun K hK => ?_) ?_
                  focus
                    go_simp
                    refine hK.out _ _ ⟨al_keep hX, fun _ => al_keep hN⟩ ?_
                    clear hK
                    (try simp only [Act.put, List.setIfInBounds_toArray, List.set_cons_zero, List.set_cons_succ])
                    have hbk := heap_alloc_new W0 (.cells #[.string key] 9 (0, 0))
                    have hlbk := hgb.size
                    replace hX := al_keep (o' := (.cells #[.string key] 9 (0, 0))) hX
                    replace hN := al_keep (o' := (.cells #[.string key] 9 (0, 0))) hN
                    replace hrk := World.ownsRow.alloc hrk (.cells #[.string key] 9 (0, 0))
                    replace hrp := World.ownsRow.alloc hrp (.cells #[.string key] 9 (0, 0))
                    replace hri := World.ownsRow.alloc hri (.cells #[.string key] 9 (0, 0))
                    replace hgb := hgb.al (.cells #[.string key] 9 (0, 0))
                    generalize W0.alloc (.cells #[.string key] 9 (0, 0)) = W1 at hbk  hX hN hrk hrp hri hgb ⊢
                    refine wpAnyL_ready (rs := [4, 8, 13]) (by kernel_rfl) (by simp) ?_
                    refine AllReadyL.cons (o := { dst := some 75, op := .call { callee := .builtin .append, args := #[.tmp 72, .tmp 74], argTypes := #[30, 30] }, type := 30, pos := "ref.go:149", after := #[{ on := 1, ground := .data }, { on := 3, ground := .data }], guard := none }) rfl (fun K hK => ?_) ?_
                    focus
                      refine step_app_row rfl _ _ 30 9 1 16 (.string ⟨#[]⟩) infoS18 rfl (by decide) (by decide) Tryz.underlying30 rfl (w.heap.size + 2) (.slice ka m kc) m (cs.map fun c => .string c.key) rfl hrk W0.heap.size 1 [.string key] _ _ rfl hbk rfl rfl hlm1 (Nat.le_trans hbs0 hgb.size) honeK ?_
                      intro vk' W2 hrk' hgk hok hsk
                      replace hok := own_tr hok hgb.size
                      have hnek := hnel _ (List.mem_cons_self ..)
                      replace hX := gr_keep hgk hX (ne_hi hnek hz6)
                      replace hN := gr_keep hgk hN (ne_lo hnek (Nat.lt_succ_of_lt (Nat.lt_succ_self _)))
                      replace hrp := gr_row hgk hrp (rows_ne hrp hrk (by decide))
                      replace hri := gr_row hgk hri (rows_ne hri hrk (by decide))
                      replace hrk := hrk'
                      clear hrk'
                      replace hgb := hgb.app hgk (by simp)
                      clear hgk hbk
                      obtain ⟨k0', k1', k2', rfl⟩ := hsk
                      refine hK.out _ _ ⟨hX, fun _ => hN⟩ ?_
                      clear hK
                      (try simp only [Act.put, List.setIfInBounds_toArray, List.set_cons_zero, List.set_cons_succ])
                      refine wpAnyL_take0 (i := 15) (v := ?_) rfl (by decide) (by kernel_rfl) (by kernel_rfl) (by kernel_rfl) (fun _ _ _ h => h) (Or.inl ⟨by rfl, ?_⟩) ⟨hX, fun _ => hN⟩ ?_
                      rotate_left
                      · intro w; go_simp; try with_reducible rfl
                      (try simp only [Act.put, List.setIfInBounds_toArray, List.set_cons_zero, List.set_cons_succ])
                      refine wpAnyL_ready (rs := [8, 13]) (by kernel_rfl) (by simp) ?_
                      refine AllReadyL.cons rfl (fun K hK => ?_) ?_
                      focus
                        go_simp
                        refine hK.out _ _ ⟨al_keep hX, fun _ => al_keep hN⟩ ?_
                        clear hK
                        (try simp only [Act.put, List.setIfInBounds_toArray, List.set_cons_zero, List.set_cons_succ])
                        have hbp := heap_alloc_new W2 (.cells #[.int .i64 (P1 : Int)] 3 (0, 0))
                        have hlbp := hgb.size
                        replace hX := al_keep (o' := (.cells #[.int .i64 (P1 : Int)] 3 (0, 0))) hX
                        replace hN := al_keep (o' := (.cells #[.int .i64 (P1 : Int)] 3 (0, 0))) hN
                        replace hrk := World.ownsRow.alloc hrk (.cells #[.int .i64 (P1 : Int)] 3 (0, 0))
                        replace hrp := World.ownsRow.alloc hrp (.cells #[.int .i64 (P1 : Int)] 3 (0, 0))
                        replace hri := World.ownsRow.alloc hri (.cells #[.int .i64 (P1 : Int)] 3 (0, 0))
                        replace hgb := hgb.al (.cells #[.int .i64 (P1 : Int)] 3 (0, 0))
                        generalize W2.alloc (.cells #[.int .i64 (P1 : Int)] 3 (0, 0)) = W3 at hbp  hX hN hrk hrp hri hgb ⊢
                        refine wpAnyL_ready (rs := [9, 13]) (by kernel_rfl) (by simp) ?_
                        refine AllReadyL.cons (o := { dst := some 80, op := .call { callee := .builtin .append, args := #[.tmp 77, .tmp 79], argTypes := #[31, 31] }, type := 31, pos := "ref.go:149", after := #[{ on := 6, ground := .data }, { on := 8, ground := .data }, { on := 4, ground := .chain }], guard := none }) rfl (fun K hK => ?_) ?_
                        focus
                          refine step_app_row rfl _ _ 31 3 1 8 (.int .i64 0) infoI18 rfl (by decide) (by decide) Tryz.underlying31 rfl (w.heap.size + 2) (.slice p0 p1 p2) m (cs.map fun c => .int .i64 (c.pl : Int)) rfl hrp W2.heap.size 1 [.int .i64 (P1 : Int)] _ _ rfl hbp rfl rfl hlm1 (Nat.le_trans hbs0 hgb.size) honeP ?_
                          intro vp' W4 hrp' hgp hop hsp
                          replace hop := own_tr hop hgb.size
                          have hnep := hnel _ (List.mem_cons_of_mem _ (List.mem_cons_self ..))
                          replace hX := gr_keep hgp hX (ne_hi hnep hz6)
                          replace hN := gr_keep hgp hN (ne_lo hnep (Nat.lt_succ_of_lt (Nat.lt_succ_self _)))
                          replace hrk := gr_row hgp hrk (rows_ne hrk hrp (by decide))
                          replace hri := gr_row hgp hri (rows_ne hri hrp (by decide))
                          replace hrp := hrp'
                          clear hrp'
                          replace hgb := hgb.app hgp (by simp)
                          clear hgp hbp
                          obtain ⟨p0', p1', p2', rfl⟩ := hsp
                          refine hK.out _ _ ⟨hX, fun _ => hN⟩ ?_
                          clear hK
                          (try simp only [Act.put, List.setIfInBounds_toArray, List.set_cons_zero, List.set_cons_succ])
                          refine wpAnyL_ready (rs := [13]) (by kernel_rfl) (by simp) ?_
                          refine AllReadyL.cons rfl (fun K hK => ?_) ?_
                          focus
                            go_simp
                            refine hK.out _ _ ⟨al_keep hX, fun _ => al_keep hN⟩ ?_
                            clear hK
                            (try simp only [Act.put, List.setIfInBounds_toArray, List.set_cons_zero, List.set_cons_succ])
                            have hbi := heap_alloc_new W4 (.cells #[.int .i64 (m4 : Int), .int .i64 (pn4 : Int), .bool f4, .string t4, .slice a1 n1 c1, .slice a2 n2 c2, .slice a3 n3 c3] 33 (0, 0))
                            have hlbi := hgb.size
                            replace hX := al_keep (o' := (.cells #[.int .i64 (m4 : Int), .int .i64 (pn4 : Int), .bool f4, .string t4, .slice a1 n1 c1, .slice a2 n2 c2, .slice a3 n3 c3] 33 (0, 0))) hX
                            replace hN := al_keep (o' := (.cells #[.int .i64 (m4 : Int), .int .i64 (pn4 : Int), .bool f4, .string t4, .slice a1 n1 c1, .slice a2 n2 c2, .slice a3 n3 c3] 33 (0, 0))) hN
                            replace hrk := World.ownsRow.alloc hrk (.cells #[.int .i64 (m4 : Int), .int .i64 (pn4 : Int), .bool f4, .string t4, .slice a1 n1 c1, .slice a2 n2 c2, .slice a3 n3 c3] 33 (0, 0))
                            replace hrp := World.ownsRow.alloc hrp (.cells #[.int .i64 (m4 : Int), .int .i64 (pn4 : Int), .bool f4, .string t4, .slice a1 n1 c1, .slice a2 n2 c2, .slice a3 n3 c3] 33 (0, 0))
                            replace hri := World.ownsRow.alloc hri (.cells #[.int .i64 (m4 : Int), .int .i64 (pn4 : Int), .bool f4, .string t4, .slice a1 n1 c1, .slice a2 n2 c2, .slice a3 n3 c3] 33 (0, 0))
                            replace hgb := hgb.al (.cells #[.int .i64 (m4 : Int), .int .i64 (pn4 : Int), .bool f4, .string t4, .slice a1 n1 c1, .slice a2 n2 c2, .slice a3 n3 c3] 33 (0, 0))
                            generalize W4.alloc (.cells #[.int .i64 (m4 : Int), .int .i64 (pn4 : Int), .bool f4, .string t4, .slice a1 n1 c1, .slice a2 n2 c2, .slice a3 n3 c3] 33 (0, 0)) = W5 at hbi  hX hN hrk hrp hri hgb ⊢
                            refine wpAnyL_ready (rs := [14]) (by kernel_rfl) (by simp) ?_
                            refine AllReadyL.cons (o := { dst := some 85, op := .call { callee := .builtin .append, args := #[.tmp 82, .tmp 84], argTypes := #[29, 29] }, type := 29, pos := "ref.go:149", after := #[{ on := 11, ground := .data }, { on := 13, ground := .data }, { on := 9, ground := .chain }], guard := none }) rfl (fun K hK => ?_) ?_
                            focus
                              refine step_app_row rfl _ _ 29 33 7 112 _ infoRd rfl (by decide) (by decide) Tryz.underlying29 rfl (w.heap.size + 2) (.slice i0 i1 i2) m (cs.flatMap RKid.u) rfl hri W4.heap.size 1 (rdC m4 pn4 f4 t4 (.slice a1 n1 c1) (.slice a2 n2 c2) (.slice a3 n3 c3)) _ _ rfl hbi rfl rfl hlm1 (Nat.le_trans hbs0 hgb.size) hone ?_
                              intro vi' W6 hri' hgi hoi hsi
                              replace hoi := own_tr hoi hgb.size
                              have hnei := hnel _ (List.mem_cons_of_mem _ (List.mem_cons_of_mem _ (List.mem_cons_self ..)))
                              replace hX := gr_keep hgi hX (ne_hi hnei hz6)
                              replace hN := gr_keep hgi hN (ne_lo hnei (Nat.lt_succ_of_lt (Nat.lt_succ_self _)))
                              replace hrk := gr_row hgi hrk (rows_ne hrk hri (by decide))
                              replace hrp := gr_row hgi hrp (rows_ne hrp hri (by decide))
                              replace hri := hri'
                              clear hri'
                              replace hgb := hgb.app hgi (by simp)
                              clear hgi hbi
                              obtain ⟨i0', i1', i2', rfl⟩ := hsi
                              refine hK.out _ _ ⟨hX, fun _ => hN⟩ ?_
                              clear hK
                              (try simp only [Act.put, List.setIfInBounds_toArray, List.set_cons_zero, List.set_cons_succ])
                            rotate_left 1
                            exact AllReadyL.nil
                          rotate_left 1
                          exact AllReadyL.nil
                        rotate_left 1
                        refine AllReadyL.cons rfl (fun K hK => ?_) ?_
                        focus
                          go_simp
                          refine hK.out _ _ ⟨al_keep hX, fun _ => al_keep hN⟩ ?_
                          clear hK
                          (try simp only [Act.put, List.setIfInBounds_toArray, List.set_cons_zero, List.set_cons_succ])
                          have hbi := heap_alloc_new W3 (.cells #[.int .i64 (m4 : Int), .int .i64 (pn4 : Int), .bool f4, .string t4, .slice a1 n1 c1, .slice a2 n2 c2, .slice a3 n3 c3] 33 (0, 0))
                          have hlbi := hgb.size
                          replace hbp := al_keep (o' := (.cells #[.int .i64 (m4 : Int), .int .i64 (pn4 : Int), .bool f4, .string t4, .slice a1 n1 c1, .slice a2 n2 c2, .slice a3 n3 c3] 33 (0, 0))) hbp
                          replace hX := al_keep (o' := (.cells #[.int .i64 (m4 : Int), .int .i64 (pn4 : Int), .bool f4, .string t4, .slice a1 n1 c1, .slice a2 n2 c2, .slice a3 n3 c3] 33 (0, 0))) hX
                          replace hN := al_keep (o' := (.cells #[.int .i64 (m4 : Int), .int .i64 (pn4 : Int), .bool f4, .string t4, .slice a1 n1 c1, .slice a2 n2 c2, .slice a3 n3 c3] 33 (0, 0))) hN
                          replace hrk := World.ownsRow.alloc hrk (.cells #[.int .i64 (m4 : Int), .int .i64 (pn4 : Int), .bool f4, .string t4, .slice a1 n1 c1, .slice a2 n2 c2, .slice a3 n3 c3] 33 (0, 0))
                          replace hrp := World.ownsRow.alloc hrp (.cells #[.int .i64 (m4 : Int), .int .i64 (pn4 : Int), .bool f4, .string t4, .slice a1 n1 c1, .slice a2 n2 c2, .slice a3 n3 c3] 33 (0, 0))
                          replace hri := World.ownsRow.alloc hri (.cells #[.int .i64 (m4 : Int), .int .i64 (pn4 : Int), .bool f4, .string t4, .slice a1 n1 c1, .slice a2 n2 c2, .slice a3 n3 c3] 33 (0, 0))
                          replace hgb := hgb.al (.cells #[.int .i64 (m4 : Int), .int .i64 (pn4 : Int), .bool f4, .string t4, .slice a1 n1 c1, .slice a2 n2 c2, .slice a3 n3 c3] 33 (0, 0))
                          generalize W3.alloc (.cells #[.int .i64 (m4 : Int), .int .i64 (pn4 : Int), .bool f4, .string t4, .slice a1 n1 c1, .slice a2 n2 c2, .slice a3 n3 c3] 33 (0, 0)) = W4 at hbi hbp hX hN hrk hrp hri hgb ⊢
                          refine wpAnyL_ready (rs := [9]) (by kernel_rfl) (by simp) ?_
                          refine AllReadyL.cons (o := { dst := some 80, op := .call { callee := .builtin .append, args := #[.tmp 77, .tmp 79], argTypes := #[31, 31] }, type := 31, pos := "ref.go:149", after := #[{ on := 6, ground := .data }, { on := 8, ground := .data }, { on := 4, ground := .chain }], guard := none }) rfl (fun K hK => ?_) ?_
                          focus
                            refine step_app_row rfl _ _ 31 3 1 8 (.int .i64 0) infoI18 rfl (by decide) (by decide) Tryz.underlying31 rfl (w.heap.size + 2) (.slice p0 p1 p2) m (cs.map fun c => .int .i64 (c.pl : Int)) rfl hrp W2.heap.size 1 [.int .i64 (P1 : Int)] _ _ rfl hbp rfl rfl hlm1 (Nat.le_trans hbs0 hgb.size) honeP ?_
                            intro vp' W5 hrp' hgp hop hsp
                            replace hop := own_tr hop hgb.size
                            have hnep := hnel _ (List.mem_cons_of_mem _ (List.mem_cons_self ..))
                            replace hX := gr_keep hgp hX (ne_hi hnep hz6)
                            replace hN := gr_keep hgp hN (ne_lo hnep (Nat.lt_succ_of_lt (Nat.lt_succ_self _)))
                            replace hbi := gr_keep hgp hbi (fun e => by have := (hnep _ e).2; omega)
                            replace hrk := gr_row hgp hrk (rows_ne hrk hrp (by decide))
                            replace hri := gr_row hgp hri (rows_ne hri hrp (by decide))
                            replace hrp := hrp'
                            clear hrp'
                            replace hgb := hgb.app hgp (by simp)
                            clear hgp hbp
                            obtain ⟨p0', p1', p2', rfl⟩ := hsp
                            refine hK.out _ _ ⟨hX, fun _ => hN⟩ ?_
                            clear hK
                            (try simp only [Act.put, List.setIfInBounds_toArray, List.set_cons_zero, List.set_cons_succ])
                            refine wpAnyL_ready (rs := [14]) (by kernel_rfl) (by simp) ?_
                            refine AllReadyL.cons (o := { dst := some 85, op := .call { callee := .builtin .append, args := #[.tmp 82, .tmp 84], argTypes := #[29, 29] }, type := 29, pos := "ref.go:149", after := #[{ on := 11, ground := .data }, { on := 13, ground := .data }, { on := 9, ground := .chain }], guard := none }) rfl (fun K hK => ?_) ?_
                            focus
                              refine step_app_row rfl _ _ 29 33 7 112 _ infoRd rfl (by decide) (by decide) Tryz.underlying29 rfl (w.heap.size + 2) (.slice i0 i1 i2) m (cs.flatMap RKid.u) rfl hri W3.heap.size 1 (rdC m4 pn4 f4 t4 (.slice a1 n1 c1) (.slice a2 n2 c2) (.slice a3 n3 c3)) _ _ rfl hbi rfl rfl hlm1 (Nat.le_trans hbs0 hgb.size) hone ?_
                              intro vi' W6 hri' hgi hoi hsi
                              replace hoi := own_tr hoi hgb.size
                              have hnei := hnel _ (List.mem_cons_of_mem _ (List.mem_cons_of_mem _ (List.mem_cons_self ..)))
                              replace hX := gr_keep hgi hX (ne_hi hnei hz6)
                              replace hN := gr_keep hgi hN (ne_lo hnei (Nat.lt_succ_of_lt (Nat.lt_succ_self _)))
                              replace hrk := gr_row hgi hrk (rows_ne hrk hri (by decide))
                              replace hrp := gr_row hgi hrp (rows_ne hrp hri (by decide))
                              replace hri := hri'
                              clear hri'
                              replace hgb := hgb.app hgi (by simp)
                              clear hgi hbi
                              obtain ⟨i0', i1', i2', rfl⟩ := hsi
                              refine hK.out _ _ ⟨hX, fun _ => hN⟩ ?_
                              clear hK
                              (try simp only [Act.put, List.setIfInBounds_toArray, List.set_cons_zero, List.set_cons_succ])
                            rotate_left 1
                            exact AllReadyL.nil
                          rotate_left 1
                          exact AllReadyL.nil
                        rotate_left 1
                        exact AllReadyL.nil
                      rotate_left 2
                      refine AllReadyL.cons rfl (fun K hK => ?_) ?_
                      focus
                        go_simp
                        refine hK.out _ _ ⟨al_keep hX, fun _ => al_keep hN⟩ ?_
                        clear hK
                        (try simp only [Act.put, List.setIfInBounds_toArray, List.set_cons_zero, List.set_cons_succ])
                        have hbi := heap_alloc_new W2 (.cells #[.int .i64 (m4 : Int), .int .i64 (pn4 : Int), .bool f4, .string t4, .slice a1 n1 c1, .slice a2 n2 c2, .slice a3 n3 c3] 33 (0, 0))
                        have hlbi := hgb.size
                        replace hX := al_keep (o' := (.cells #[.int .i64 (m4 : Int), .int .i64 (pn4 : Int), .bool f4, .string t4, .slice a1 n1 c1, .slice a2 n2 c2, .slice a3 n3 c3] 33 (0, 0))) hX
                        replace hN := al_keep (o' := (.cells #[.int .i64 (m4 : Int), .int .i64 (pn4 : Int), .bool f4, .string t4, .slice a1 n1 c1, .slice a2 n2 c2, .slice a3 n3 c3] 33 (0, 0))) hN
                        replace hrk := World.ownsRow.alloc hrk (.cells #[.int .i64 (m4 : Int), .int .i64 (pn4 : Int), .bool f4, .string t4, .slice a1 n1 c1, .slice a2 n2 c2, .slice a3 n3 c3] 33 (0, 0))
                        replace hrp := World.ownsRow.alloc hrp (.cells #[.int .i64 (m4 : Int), .int .i64 (pn4 : Int), .bool f4, .string t4, .slice a1 n1 c1, .slice a2 n2 c2, .slice a3 n3 c3] 33 (0, 0))
                        replace hri := World.ownsRow.alloc hri (.cells #[.int .i64 (m4 : Int), .int .i64 (pn4 : Int), .bool f4, .string t4, .slice a1 n1 c1, .slice a2 n2 c2, .slice a3 n3 c3] 33 (0, 0))
                        replace hgb := hgb.al (.cells #[.int .i64 (m4 : Int), .int .i64 (pn4 : Int), .bool f4, .string t4, .slice a1 n1 c1, .slice a2 n2 c2, .slice a3 n3 c3] 33 (0, 0))
                        generalize W2.alloc (.cells #[.int .i64 (m4 : Int), .int .i64 (pn4 : Int), .bool f4, .string t4, .slice a1 n1 c1, .slice a2 n2 c2, .slice a3 n3 c3] 33 (0, 0)) = W3 at hbi  hX hN hrk hrp hri hgb ⊢
                        refine wpAnyL_ready (rs := [8]) (by kernel_rfl) (by simp) ?_
                        refine AllReadyL.cons rfl (fun K hK => ?_) ?_
                        focus
                          go_simp
                          refine hK.out _ _ ⟨al_keep hX, fun _ => al_keep hN⟩ ?_
                          clear hK
                          (try simp only [Act.put, List.setIfInBounds_toArray, List.set_cons_zero, List.set_cons_succ])
                          have hbp := heap_alloc_new W3 (.cells #[.int .i64 (P1 : Int)] 3 (0, 0))
                          have hlbp := hgb.size
                          replace hbi := al_keep (o' := (.cells #[.int .i64 (P1 : Int)] 3 (0, 0))) hbi
                          replace hX := al_keep (o' := (.cells #[.int .i64 (P1 : Int)] 3 (0, 0))) hX
                          replace hN := al_keep (o' := (.cells #[.int .i64 (P1 : Int)] 3 (0, 0))) hN
                          replace hrk := World.ownsRow.alloc hrk (.cells #[.int .i64 (P1 : Int)] 3 (0, 0))
                          replace hrp := World.ownsRow.alloc hrp (.cells #[.int .i64 (P1 : Int)] 3 (0, 0))
                          replace hri := World.ownsRow.alloc hri (.cells #[.int .i64 (P1 : Int)] 3 (0, 0))
                          replace hgb := hgb.al (.cells #[.int .i64 (P1 : Int)] 3 (0, 0))
                          generalize W3.alloc (.cells #[.int .i64 (P1 : Int)] 3 (0, 0)) = W4 at hbp hbi hX hN hrk hrp hri hgb ⊢
                          refine wpAnyL_ready (rs := [9]) (by kernel_rfl) (by simp) ?_
                          refine AllReadyL.cons (o := { dst := some 80, op := .call { callee := .builtin .append, args := #[.tmp 77, .tmp 79], argTypes := #[31, 31] }, type := 31, pos := "ref.go:149", after := #[{ on := 6, ground := .data }, { on := 8, ground := .data }, { on := 4, ground := .chain }], guard := none }) rfl (fun K hK => ?_) ?_
                          focus
                            refine step_app_row rfl _ _ 31 3 1 8 (.int .i64 0) infoI18 rfl (by decide) (by decide) Tryz.underlying31 rfl (w.heap.size + 2) (.slice p0 p1 p2) m (cs.map fun c => .int .i64 (c.pl : Int)) rfl hrp W3.heap.size 1 [.int .i64 (P1 : Int)] _ _ rfl hbp rfl rfl hlm1 (Nat.le_trans hbs0 hgb.size) honeP ?_
                            intro vp' W5 hrp' hgp hop hsp
                            replace hop := own_tr hop hgb.size
                            have hnep := hnel _ (List.mem_cons_of_mem _ (List.mem_cons_self ..))
                            replace hX := gr_keep hgp hX (ne_hi hnep hz6)
                            replace hN := gr_keep hgp hN (ne_lo hnep (Nat.lt_succ_of_lt (Nat.lt_succ_self _)))
                            replace hbi := gr_keep hgp hbi (fun e => by have := (hnep _ e).2; omega)
                            replace hrk := gr_row hgp hrk (rows_ne hrk hrp (by decide))
                            replace hri := gr_row hgp hri (rows_ne hri hrp (by decide))
                            replace hrp := hrp'
                            clear hrp'
                            replace hgb := hgb.app hgp (by simp)
                            clear hgp hbp
                            obtain ⟨p0', p1', p2', rfl⟩ := hsp
                            refine hK.out _ _ ⟨hX, fun _ => hN⟩ ?_
                            clear hK
                            (try simp only [Act.put, List.setIfInBounds_toArray, List.set_cons_zero, List.set_cons_succ])
                            refine wpAnyL_ready (rs := [14]) (by kernel_rfl) (by simp) ?_
                            refine AllReadyL.cons (o := { dst := some 85, op := .call { callee := .builtin .append, args := #[.tmp 82, .tmp 84], argTypes := #[29, 29] }, type := 29, pos := "ref.go:149", after := #[{ on := 11, ground := .data }, { on := 13, ground := .data }, { on := 9, ground := .chain }], guard := none }) rfl (fun K hK => ?_) ?_
                            focus
                              refine step_app_row rfl _ _ 29 33 7 112 _ infoRd rfl (by decide) (by decide) Tryz.underlying29 rfl (w.heap.size + 2) (.slice i0 i1 i2) m (cs.flatMap RKid.u) rfl hri W2.heap.size 1 (rdC m4 pn4 f4 t4 (.slice a1 n1 c1) (.slice a2 n2 c2) (.slice a3 n3 c3)) _ _ rfl hbi rfl rfl hlm1 (Nat.le_trans hbs0 hgb.size) hone ?_
                              intro vi' W6 hri' hgi hoi hsi
                              replace hoi := own_tr hoi hgb.size
                              have hnei := hnel _ (List.mem_cons_of_mem _ (List.mem_cons_of_mem _ (List.mem_cons_self ..)))
                              replace hX := gr_keep hgi hX (ne_hi hnei hz6)
                              replace hN := gr_keep hgi hN (ne_lo hnei (Nat.lt_succ_of_lt (Nat.lt_succ_self _)))
                              replace hrk := gr_row hgi hrk (rows_ne hrk hri (by decide))
                              replace hrp := gr_row hgi hrp (rows_ne hrp hri (by decide))
                              replace hri := hri'
                              clear hri'
                              replace hgb := hgb.app hgi (by simp)
                              clear hgi hbi
                              obtain ⟨i0', i1', i2', rfl⟩ := hsi
                              refine hK.out _ _ ⟨hX, fun _ => hN⟩ ?_
                              clear hK
                              (try simp only [Act.put, List.setIfInBounds_toArray, List.set_cons_zero, List.set_cons_succ])
                            rotate_left 1
                            exact AllReadyL.nil
                          rotate_left 1
                          exact AllReadyL.nil
                        rotate_left 1
                        exact AllReadyL.nil
                      rotate_left 1
                      exact AllReadyL.nil
                    rotate_left 3
                    refine AllReadyL.cons rfl (fun K hK => ?_) ?_
                    focus
                      go_simp
                      refine hK.out _ _ ⟨al_keep hX, fun _ => al_keep hN⟩ ?_
                      clear hK
                      (try simp only [Act.put, List.setIfInBounds_toArray, List.set_cons_zero, List.set_cons_succ])
                      have hbp := heap_alloc_new W1 (.cells #[.int .i64 (P1 : Int)] 3 (0, 0))
                      have hlbp := hgb.size
                      replace hbk := al_keep (o' := (.cells #[.int .i64 (P1 : Int)] 3 (0, 0))) hbk
                      replace hX := al_keep (o' := (.cells #[.int .i64 (P1 : Int)] 3 (0, 0))) hX
                      replace hN := al_keep (o' := (.cells #[.int .i64 (P1 : Int)] 3 (0, 0))) hN
                      replace hrk := World.ownsRow.alloc hrk (.cells #[.int .i64 (P1 : Int)] 3 (0, 0))
                      replace hrp := World.ownsRow.alloc hrp (.cells #[.int .i64 (P1 : Int)] 3 (0, 0))
                      replace hri := World.ownsRow.alloc hri (.cells #[.int .i64 (P1 : Int)] 3 (0, 0))
                      replace hgb := hgb.al (.cells #[.int .i64 (P1 : Int)] 3 (0, 0))
                      generalize W1.alloc (.cells #[.int .i64 (P1 : Int)] 3 (0, 0)) = W2 at hbp hbk hX hN hrk hrp hri hgb ⊢
                      refine wpAnyL_ready (rs := [4, 13]) (by kernel_rfl) (by simp) ?_
                      refine AllReadyL.cons (o := { dst := some 75, op := .call { callee := .builtin .append, args := #[.tmp 72, .tmp 74], argTypes := #[30, 30] }, type := 30, pos := "ref.go:149", after := #[{ on := 1, ground := .data }, { on := 3, ground := .data }], guard := none }) rfl (fun K hK => ?_) ?_
                      focus
                        refine step_app_row rfl _ _ 30 9 1 16 (.string ⟨#[]⟩) infoS18 rfl (by decide) (by decide) Tryz.underlying30 rfl (w.heap.size + 2) (.slice ka m kc) m (cs.map fun c => .string c.key) rfl hrk W0.heap.size 1 [.string key] _ _ rfl hbk rfl rfl hlm1 (Nat.le_trans hbs0 hgb.size) honeK ?_
                        intro vk' W3 hrk' hgk hok hsk
                        replace hok := own_tr hok hgb.size
                        have hnek := hnel _ (List.mem_cons_self ..)
                        replace hX := gr_keep hgk hX (ne_hi hnek hz6)
                        replace hN := gr_keep hgk hN (ne_lo hnek (Nat.lt_succ_of_lt (Nat.lt_succ_self _)))
                        replace hbp := gr_keep hgk hbp (fun e => by have := (hnek _ e).2; omega)
                        replace hrp := gr_row hgk hrp (rows_ne hrp hrk (by decide))
                        replace hri := gr_row hgk hri (rows_ne hri hrk (by decide))
                        replace hrk := hrk'
                        clear hrk'
                        replace hgb := hgb.app hgk (by simp)
                        clear hgk hbk
                        obtain ⟨k0', k1', k2', rfl⟩ := hsk
                        refine hK.out _ _ ⟨hX, fun _ => hN⟩ ?_
                        clear hK
                        (try simp only [Act.put, List.setIfInBounds_toArray, List.set_cons_zero, List.set_cons_succ])
                        refine wpAnyL_take0 (i := 15) (v := ?_) rfl (by decide) (by kernel_rfl) (by kernel_rfl) (by kernel_rfl) (fun _ _ _ h => h) (Or.inl ⟨by rfl, ?_⟩) ⟨hX, fun _ => hN⟩ ?_
                        rotate_left
                        · intro w; go_simp; try with_reducible rfl
                        (try simp only [Act.put, List.setIfInBounds_toArray, List.set_cons_zero, List.set_cons_succ])
                        refine wpAnyL_ready (rs := [9, 13]) (by kernel_rfl) (by simp) ?_
                        refine AllReadyL.cons (o := { dst := some 80, op := .call { callee := .builtin .append, args := #[.tmp 77, .tmp 79], argTypes := #[31, 31] }, type := 31, pos := "ref.go:149", after := #[{ on := 6, ground := .data }, { on := 8, ground := .data }, { on := 4, ground := .chain }], guard := none }) rfl (fun K hK => ?_) ?_
                        focus
                          refine step_app_row rfl _ _ 31 3 1 8 (.int .i64 0) infoI18 rfl (by decide) (by decide) Tryz.underlying31 rfl (w.heap.size + 2) (.slice p0 p1 p2) m (cs.map fun c => .int .i64 (c.pl : Int)) rfl hrp W1.heap.size 1 [.int .i64 (P1 : Int)] _ _ rfl hbp rfl rfl hlm1 (Nat.le_trans hbs0 hgb.size) honeP ?_
                          intro vp' W4 hrp' hgp hop hsp
                          replace hop := own_tr hop hgb.size
                          have hnep := hnel _ (List.mem_cons_of_mem _ (List.mem_cons_self ..))
                          replace hX := gr_keep hgp hX (ne_hi hnep hz6)
                          replace hN := gr_keep hgp hN (ne_lo hnep (Nat.lt_succ_of_lt (Nat.lt_succ_self _)))
                          replace hrk := gr_row hgp hrk (rows_ne hrk hrp (by decide))
                          replace hri := gr_row hgp hri (rows_ne hri hrp (by decide))
                          replace hrp := hrp'
                          clear hrp'
                          replace hgb := hgb.app hgp (by simp)
                          clear hgp hbp
                          obtain ⟨p0', p1', p2', rfl⟩ := hsp
                          refine hK.out _ _ ⟨hX, fun _ => hN⟩ ?_
                          clear hK
                          (try simp only [Act.put, List.setIfInBounds_toArray, List.set_cons_zero, List.set_cons_succ])
                          refine wpAnyL_ready (rs := [13]) (by kernel_rfl) (by simp) ?_
                          refine AllReadyL.cons rfl (fun K hK => ?_) ?_
                          focus
                            go_simp
                            refine hK.out _ _ ⟨al_keep hX, fun _ => al_keep hN⟩ ?_
                            clear hK
                            (try simp only [Act.put, List.setIfInBounds_toArray, List.set_cons_zero, List.set_cons_succ])
                            have hbi := heap_alloc_new W4 (.cells #[.int .i64 (m4 : Int), .int .i64 (pn4 : Int), .bool f4, .string t4, .slice a1 n1 c1, .slice a2 n2 c2, .slice a3 n3 c3] 33 (0, 0))
                            have hlbi := hgb.size
                            replace hX := al_keep (o' := (.cells #[.int .i64 (m4 : Int), .int .i64 (pn4 : Int), .bool f4, .string t4, .slice a1 n1 c1, .slice a2 n2 c2, .slice a3 n3 c3] 33 (0, 0))) hX
                            replace hN := al_keep (o' := (.cells #[.int .i64 (m4 : Int), .int .i64 (pn4 : Int), .bool f4, .string t4, .slice a1 n1 c1, .slice a2 n2 c2, .slice a3 n3 c3] 33 (0, 0))) hN
                            replace hrk := World.ownsRow.alloc hrk (.cells #[.int .i64 (m4 : Int), .int .i64 (pn4 : Int), .bool f4, .string t4, .slice a1 n1 c1, .slice a2 n2 c2, .slice a3 n3 c3] 33 (0, 0))
                            replace hrp := World.ownsRow.alloc hrp (.cells #[.int .i64 (m4 : Int), .int .i64 (pn4 : Int), .bool f4, .string t4, .slice a1 n1 c1, .slice a2 n2 c2, .slice a3 n3 c3] 33 (0, 0))
                            replace hri := World.ownsRow.alloc hri (.cells #[.int .i64 (m4 : Int), .int .i64 (pn4 : Int), .bool f4, .string t4, .slice a1 n1 c1, .slice a2 n2 c2, .slice a3 n3 c3] 33 (0, 0))
                            replace hgb := hgb.al (.cells #[.int .i64 (m4 : Int), .int .i64 (pn4 : Int), .bool f4, .string t4, .slice a1 n1 c1, .slice a2 n2 c2, .slice a3 n3 c3] 33 (0, 0))
                            generalize W4.alloc (.cells #[.int .i64 (m4 : Int), .int .i64 (pn4 : Int), .bool f4, .string t4, .slice a1 n1 c1, .slice a2 n2 c2, .slice a3 n3 c3] 33 (0, 0)) = W5 at hbi  hX hN hrk hrp hri hgb ⊢
                            refine wpAnyL_ready (rs := [14]) (by kernel_rfl) (by simp) ?_
                            refine AllReadyL.cons (o := { dst := some 85, op := .call { callee := .builtin .append, args := #[.tmp 82, .tmp 84], argTypes := #[29, 29] }, type := 29, pos := "ref.go:149", after := #[{ on := 11, ground := .data }, { on := 13, ground := .data }, { on := 9, ground := .chain }], guard := none }) rfl (fun K hK => ?_) ?_
                            focus
                              refine step_app_row rfl _ _ 29 33 7 112 _ infoRd rfl (by decide) (by decide) Tryz.underlying29 rfl (w.heap.size + 2) (.slice i0 i1 i2) m (cs.flatMap RKid.u) rfl hri W4.heap.size 1 (rdC m4 pn4 f4 t4 (.slice a1 n1 c1) (.slice a2 n2 c2) (.slice a3 n3 c3)) _ _ rfl hbi rfl rfl hlm1 (Nat.le_trans hbs0 hgb.size) hone ?_
                              intro vi' W6 hri' hgi hoi hsi
                              replace hoi := own_tr hoi hgb.size
                              have hnei := hnel _ (List.mem_cons_of_mem _ (List.mem_cons_of_mem _ (List.mem_cons_self ..)))
                              replace hX := gr_keep hgi hX (ne_hi hnei hz6)
                              replace hN := gr_keep hgi hN (ne_lo hnei (Nat.lt_succ_of_lt (Nat.lt_succ_self _)))
                              replace hrk := gr_row hgi hrk (rows_ne hrk hri (by decide))
                              replace hrp := gr_row hgi hrp (rows_ne hrp hri (by decide))
                              replace hri := hri'
                              clear hri'
                              replace hgb := hgb.app hgi (by simp)
                              clear hgi hbi
                              obtain ⟨i0', i1', i2', rfl⟩ := hsi
                              refine hK.out _ _ ⟨hX, fun _ => hN⟩ ?_
                              clear hK
                              (try simp only [Act.put, List.setIfInBounds_toArray, List.set_cons_zero, List.set_cons_succ])
                            rotate_left 1
                            exact AllReadyL.nil
                          rotate_left 1
                          exact AllReadyL.nil
                        rotate_left 1
                        refine AllReadyL.cons rfl (fun K hK => ?_) ?_
                        focus
                          go_simp
                          refine hK.out _ _ ⟨al_keep hX, fun _ => al_keep hN⟩ ?_
                          clear hK
                          (try simp only [Act.put, List.setIfInBounds_toArray, List.set_cons_zero, List.set_cons_succ])
                          have hbi := heap_alloc_new W3 (.cells #[.int .i64 (m4 : Int), .int .i64 (pn4 : Int), .bool f4, .string t4, .slice a1 n1 c1, .slice a2 n2 c2, .slice a3 n3 c3] 33 (0, 0))
                          have hlbi := hgb.size
                          replace hbp := al_keep (o' := (.cells #[.int .i64 (m4 : Int), .int .i64 (pn4 : Int), .bool f4, .string t4, .slice a1 n1 c1, .slice a2 n2 c2, .slice a3 n3 c3] 33 (0, 0))) hbp
                          replace hX := al_keep (o' := (.cells #[.int .i64 (m4 : Int), .int .i64 (pn4 : Int), .bool f4, .string t4, .slice a1 n1 c1, .slice a2 n2 c2, .slice a3 n3 c3] 33 (0, 0))) hX
                          replace hN := al_keep (o' := (.cells #[.int .i64 (m4 : Int), .int .i64 (pn4 : Int), .bool f4, .string t4, .slice a1 n1 c1, .slice a2 n2 c2, .slice a3 n3 c3] 33 (0, 0))) hN
                          replace hrk := World.ownsRow.alloc hrk (.cells #[.int .i64 (m4 : Int), .int .i64 (pn4 : Int), .bool f4, .string t4, .slice a1 n1 c1, .slice a2 n2 c2, .slice a3 n3 c3] 33 (0, 0))
                          replace hrp := World.ownsRow.alloc hrp (.cells #[.int .i64 (m4 : Int), .int .i64 (pn4 : Int), .bool f4, .string t4, .slice a1 n1 c1, .slice a2 n2 c2, .slice a3 n3 c3] 33 (0, 0))
                          replace hri := World.ownsRow.alloc hri (.cells #[.int .i64 (m4 : Int), .int .i64 (pn4 : Int), .bool f4, .string t4, .slice a1 n1 c1, .slice a2 n2 c2, .slice a3 n3 c3] 33 (0, 0))
                          replace hgb := hgb.al (.cells #[.int .i64 (m4 : Int), .int .i64 (pn4 : Int), .bool f4, .string t4, .slice a1 n1 c1, .slice a2 n2 c2, .slice a3 n3 c3] 33 (0, 0))
                          generalize W3.alloc (.cells #[.int .i64 (m4 : Int), .int .i64 (pn4 : Int), .bool f4, .string t4, .slice a1 n1 c1, .slice a2 n2 c2, .slice a3 n3 c3] 33 (0, 0)) = W4 at hbi hbp hX hN hrk hrp hri hgb ⊢
                          refine wpAnyL_ready (rs := [9]) (by kernel_rfl) (by simp) ?_
                          refine AllReadyL.cons (o := { dst := some 80, op := .call { callee := .builtin .append, args := #[.tmp 77, .tmp 79], argTypes := #[31, 31] }, type := 31, pos := "ref.go:149", after := #[{ on := 6, ground := .data }, { on := 8, ground := .data }, { on := 4, ground := .chain }], guard := none }) rfl (fun K hK => ?_) ?_
                          focus
                            refine step_app_row rfl _ _ 31 3 1 8 (.int .i64 0) infoI18 rfl (by decide) (by decide) Tryz.underlying31 rfl (w.heap.size + 2) (.slice p0 p1 p2) m (cs.map fun c => .int .i64 (c.pl : Int)) rfl hrp W1.heap.size 1 [.int .i64 (P1 : Int)] _ _ rfl hbp rfl rfl hlm1 (Nat.le_trans hbs0 hgb.size) honeP ?_
                            intro vp' W5 hrp' hgp hop hsp
                            replace hop := own_tr hop hgb.size
                            have hnep := hnel _ (List.mem_cons_of_mem _ (List.mem_cons_self ..))
                            replace hX := gr_keep hgp hX (ne_hi hnep hz6)
                            replace hN := gr_keep hgp hN (ne_lo hnep (Nat.lt_succ_of_lt (Nat.lt_succ_self _)))
                            replace hbi := gr_keep hgp hbi (fun e => by have := (hnep _ e).2; omega)
                            replace hrk := gr_row hgp hrk (rows_ne hrk hrp (by decide))
                            replace hri := gr_row hgp hri (rows_ne hri hrp (by decide))
                            replace hrp := hrp'
                            clear hrp'
                            replace hgb := hgb.app hgp (by simp)
                            clear hgp hbp
                            obtain ⟨p0', p1', p2', rfl⟩ := hsp
                            refine hK.out _ _ ⟨hX, fun _ => hN⟩ ?_
                            clear hK
                            (try simp only [Act.put, List.setIfInBounds_toArray, List.set_cons_zero, List.set_cons_succ])
                            refine wpAnyL_ready (rs := [14]) (by kernel_rfl) (by simp) ?_
                            refine AllReadyL.cons (o := { dst := some 85, op := .call { callee := .builtin .append, args := #[.tmp 82, .tmp 84], argTypes := #[29, 29] }, type := 29, pos := "ref.go:149", after := #[{ on := 11, ground := .data }, { on := 13, ground := .data }, { on := 9, ground := .chain }], guard := none }) rfl (fun K hK => ?_) ?_
                            focus
                              refine step_app_row rfl _ _ 29 33 7 112 _ infoRd rfl (by decide) (by decide) Tryz.underlying29 rfl (w.heap.size + 2) (.slice i0 i1 i2) m (cs.flatMap RKid.u) rfl hri W3.heap.size 1 (rdC m4 pn4 f4 t4 (.slice a1 n1 c1) (.slice a2 n2 c2) (.slice a3 n3 c3)) _ _ rfl hbi rfl rfl hlm1 (Nat.le_trans hbs0 hgb.size) hone ?_
                              intro vi' W6 hri' hgi hoi hsi
                              replace hoi := own_tr hoi hgb.size
                              have hnei := hnel _ (List.mem_cons_of_mem _ (List.mem_cons_of_mem _ (List.mem_cons_self ..)))
                              replace hX := gr_keep hgi hX (ne_hi hnei hz6)
                              replace hN := gr_keep hgi hN (ne_lo hnei (Nat.lt_succ_of_lt (Nat.lt_succ_self _)))
                              replace hrk := gr_row hgi hrk (rows_ne hrk hri (by decide))
                              replace hrp := gr_row hgi hrp (rows_ne hrp hri (by decide))
                              replace hri := hri'
                              clear hri'
                              replace hgb := hgb.app hgi (by simp)
                              clear hgi hbi
                              obtain ⟨i0', i1', i2', rfl⟩ := hsi
                              refine hK.out _ _ ⟨hX, fun _ => hN⟩ ?_
                              clear hK
                              (try simp only [Act.put, List.setIfInBounds_toArray, List.set_cons_zero, List.set_cons_succ])
                            rotate_left 1
                            exact AllReadyL.nil
                          rotate_left 1
                          exact AllReadyL.nil
                        rotate_left 1
                        exact AllReadyL.nil
                      rotate_left 2
                      refine AllReadyL.cons rfl (fun K hK => ?_) ?_
                      focus
                        go_simp
                        refine hK.out _ _ ⟨al_keep hX, fun _ => al_keep hN⟩ ?_
                        clear hK
                        (try simp only [Act.put, List.setIfInBounds_toArray, List.set_cons_zero, List.set_cons_succ])
                        have hbi := heap_alloc_new W2 (.cells #[.int .i64 (m4 : Int), .int .i64 (pn4 : Int), .bool f4, .string t4, .slice a1 n1 c1, .slice a2 n2 c2, .slice a3 n3 c3] 33 (0, 0))
                        have hlbi := hgb.size
                        replace hbk := al_keep (o' := (.cells #[.int .i64 (m4 : Int), .int .i64 (pn4 : Int), .bool f4, .string t4, .slice a1 n1 c1, .slice a2 n2 c2, .slice a3 n3 c3] 33 (0, 0))) hbk
                        replace hbp := al_keep (o' := (.cells #[.int .i64 (m4 : Int), .int .i64 (pn4 : Int), .bool f4, .string t4, .slice a1 n1 c1, .slice a2 n2 c2, .slice a3 n3 c3] 33 (0, 0))) hbp
                        replace hX := al_keep (o' := (.cells #[.int .i64 (m4 : Int), .int .i64 (pn4 : Int), .bool f4, .string t4, .slice a1 n1 c1, .slice a2 n2 c2, .slice a3 n3 c3] 33 (0, 0))) hX
                        replace hN := al_keep (o' := (.cells #[.int .i64 (m4 : Int), .int .i64 (pn4 : Int), .bool f4, .string t4, .slice a1 n1 c1, .slice a2 n2 c2, .slice a3 n3 c3] 33 (0, 0))) hN
                        replace hrk := World.ownsRow.alloc hrk (.cells #[.int .i64 (m4 : Int), .int .i64 (pn4 : Int), .bool f4, .string t4, .slice a1 n1 c1, .slice a2 n2 c2, .slice a3 n3 c3] 33 (0, 0))
                        replace hrp := World.ownsRow.alloc hrp (.cells #[.int .i64 (m4 : Int), .int .i64 (pn4 : Int), .bool f4, .string t4, .slice a1 n1 c1, .slice a2 n2 c2, .slice a3 n3 c3] 33 (0, 0))
                        replace hri := World.ownsRow.alloc hri (.cells #[.int .i64 (m4 : Int), .int .i64 (pn4 : Int), .bool f4, .string t4, .slice a1 n1 c1, .slice a2 n2 c2, .slice a3 n3 c3] 33 (0, 0))
                        replace hgb := hgb.al (.cells #[.int .i64 (m4 : Int), .int .i64 (pn4 : Int), .bool f4, .string t4, .slice a1 n1 c1, .slice a2 n2 c2, .slice a3 n3 c3] 33 (0, 0))
                        generalize W2.alloc (.cells #[.int .i64 (m4 : Int), .int .i64 (pn4 : Int), .bool f4, .string t4, .slice a1 n1 c1, .slice a2 n2 c2, .slice a3 n3 c3] 33 (0, 0)) = W3 at hbi hbk hbp hX hN hrk hrp hri hgb ⊢
                        refine wpAnyL_ready (rs := [4]) (by kernel_rfl) (by simp) ?_
                        refine AllReadyL.cons (o := { dst := some 75, op := .call { callee := .builtin .append, args := #[.tmp 72, .tmp 74], argTypes := #[30, 30] }, type := 30, pos := "ref.go:149", after := #[{ on := 1, ground := .data }, { on := 3, ground := .data }], guard := none }) rfl (fun K hK => ?_) ?_
                        focus
                          refine step_app_row rfl _ _ 30 9 1 16 (.string ⟨#[]⟩) infoS18 rfl (by decide) (by decide) Tryz.underlying30 rfl (w.heap.size + 2) (.slice ka m kc) m (cs.map fun c => .string c.key) rfl hrk W0.heap.size 1 [.string key] _ _ rfl hbk rfl rfl hlm1 (Nat.le_trans hbs0 hgb.size) honeK ?_
                          intro vk' W4 hrk' hgk hok hsk
                          replace hok := own_tr hok hgb.size
                          have hnek := hnel _ (List.mem_cons_self ..)
                          replace hX := gr_keep hgk hX (ne_hi hnek hz6)
                          replace hN := gr_keep hgk hN (ne_lo hnek (Nat.lt_succ_of_lt (Nat.lt_succ_self _)))
                          replace hbi := gr_keep hgk hbi (fun e => by have := (hnek _ e).2; omega)
                          replace hbp := gr_keep hgk hbp (fun e => by have := (hnek _ e).2; omega)
                          replace hrp := gr_row hgk hrp (rows_ne hrp hrk (by decide))
                          replace hri := gr_row hgk hri (rows_ne hri hrk (by decide))
                          replace hrk := hrk'
                          clear hrk'
                          replace hgb := hgb.app hgk (by simp)
                          clear hgk hbk
                          obtain ⟨k0', k1', k2', rfl⟩ := hsk
                          refine hK.out _ _ ⟨hX, fun _ => hN⟩ ?_
                          clear hK
                          (try simp only [Act.put, List.setIfInBounds_toArray, List.set_cons_zero, List.set_cons_succ])
                          refine wpAnyL_take0 (i := 15) (v := ?_) rfl (by decide) (by kernel_rfl) (by kernel_rfl) (by kernel_rfl) (fun _ _ _ h => h) (Or.inl ⟨by rfl, ?_⟩) ⟨hX, fun _ => hN⟩ ?_
                          rotate_left
                          · intro w; go_simp; try with_reducible rfl
                          (try simp only [Act.put, List.setIfInBounds_toArray, List.set_cons_zero, List.set_cons_succ])
                          refine wpAnyL_ready (rs := [9]) (by kernel_rfl) (by simp) ?_
                          refine AllReadyL.cons (o := { dst := some 80, op := .call { callee := .builtin .append, args := #[.tmp 77, .tmp 79], argTypes := #[31, 31] }, type := 31, pos := "ref.go:149", after := #[{ on := 6, ground := .data }, { on := 8, ground := .data }, { on := 4, ground := .chain }], guard := none }) rfl (fun K hK => ?_) ?_
                          focus
                            refine step_app_row rfl _ _ 31 3 1 8 (.int .i64 0) infoI18 rfl (by decide) (by decide) Tryz.underlying31 rfl (w.heap.size + 2) (.slice p0 p1 p2) m (cs.map fun c => .int .i64 (c.pl : Int)) rfl hrp W1.heap.size 1 [.int .i64 (P1 : Int)] _ _ rfl hbp rfl rfl hlm1 (Nat.le_trans hbs0 hgb.size) honeP ?_
                            intro vp' W5 hrp' hgp hop hsp
                            replace hop := own_tr hop hgb.size
                            have hnep := hnel _ (List.mem_cons_of_mem _ (List.mem_cons_self ..))
                            replace hX := gr_keep hgp hX (ne_hi hnep hz6)
                            replace hN := gr_keep hgp hN (ne_lo hnep (Nat.lt_succ_of_lt (Nat.lt_succ_self _)))
                            replace hbi := gr_keep hgp hbi (fun e => by have := (hnep _ e).2; omega)
                            replace hrk := gr_row hgp hrk (rows_ne hrk hrp (by decide))
                            replace hri := gr_row hgp hri (rows_ne hri hrp (by decide))
                            replace hrp := hrp'
                            clear hrp'
                            replace hgb := hgb.app hgp (by simp)
                            clear hgp hbp
                            obtain ⟨p0', p1', p2', rfl⟩ := hsp
                            refine hK.out _ _ ⟨hX, fun _ => hN⟩ ?_
                            clear hK
                            (try simp only [Act.put, List.setIfInBounds_toArray, List.set_cons_zero, List.set_cons_succ])
                            refine wpAnyL_ready (rs := [14]) (by kernel_rfl) (by simp) ?_
                            refine AllReadyL.cons (o := { dst := some 85, op := .call { callee := .builtin .append, args := #[.tmp 82, .tmp 84], argTypes := #[29, 29] }, type := 29, pos := "ref.go:149", after := #[{ on := 11, ground := .data }, { on := 13, ground := .data }, { on := 9, ground := .chain }], guard := none }) rfl (fun K hK => ?_) ?_
                            focus
                              refine step_app_row rfl _ _ 29 33 7 112 _ infoRd rfl (by decide) (by decide) Tryz.underlying29 rfl (w.heap.size + 2) (.slice i0 i1 i2) m (cs.flatMap RKid.u) rfl hri W2.heap.size 1 (rdC m4 pn4 f4 t4 (.slice a1 n1 c1) (.slice a2 n2 c2) (.slice a3 n3 c3)) _ _ rfl hbi rfl rfl hlm1 (Nat.le_trans hbs0 hgb.size) hone ?_
                              intro vi' W6 hri' hgi hoi hsi
                              replace hoi := own_tr hoi hgb.size
                              have hnei := hnel _ (List.mem_cons_of_mem _ (List.mem_cons_of_mem _ (List.mem_cons_self ..)))
                              replace hX := gr_keep hgi hX (ne_hi hnei hz6)
                              replace hN := gr_keep hgi hN (ne_lo hnei (Nat.lt_succ_of_lt (Nat.lt_succ_self _)))
                              replace hrk := gr_row hgi hrk (rows_ne hrk hri (by decide))
                              replace hrp := gr_row hgi hrp (rows_ne hrp hri (by decide))
                              replace hri := hri'
                              clear hri'
                              replace hgb := hgb.app hgi (by simp)
                              clear hgi hbi
                              obtain ⟨i0', i1', i2', rfl⟩ := hsi
                              refine hK.out _ _ ⟨hX, fun _ => hN⟩ ?_
                              clear hK
                              (try simp only [Act.put, List.setIfInBounds_toArray, List.set_cons_zero, List.set_cons_succ])
                            rotate_left 1
                            exact AllReadyL.nil
                          rotate_left 1
                          exact AllReadyL.nil
                        rotate_left 1
                        exact AllReadyL.nil
                      rotate_left 1
                      exact AllReadyL.nil
                    rotate_left 3
                    refine AllReadyL.cons rfl (fun K hK => ?_) ?_
                    focus
                      go_simp
                      refine hK.out _ _ ⟨al_keep hX, fun _ => al_keep hN⟩ ?_
                      clear hK
                      (try simp only [Act.put, List.setIfInBounds_toArray, List.set_cons_zero, List.set_cons_succ])
                      have hbi := heap_alloc_new W1 (.cells #[.int .i64 (m4 : Int), .int .i64 (pn4 : Int), .bool f4, .string t4, .slice a1 n1 c1, .slice a2 n2 c2, .slice a3 n3 c3] 33 (0, 0))
                      have hlbi := hgb.size
                      replace hbk := al_keep (o' := (.cells #[.int .i64 (m4 : Int), .int .i64 (pn4 : Int), .bool f4, .string t4, .slice a1 n1 c1, .slice a2 n2 c2, .slice a3 n3 c3] 33 (0, 0))) hbk
                      replace hX := al_keep (o' := (.cells #[.int .i64 (m4 : Int), .int .i64 (pn4 : Int), .bool f4, .string t4, .slice a1 n1 c1, .slice a2 n2 c2, .slice a3 n3 c3] 33 (0, 0))) hX
                      replace hN := al_keep (o' := (.cells #[.int .i64 (m4 : Int), .int .i64 (pn4 : Int), .bool f4, .string t4, .slice a1 n1 c1, .slice a2 n2 c2, .slice a3 n3 c3] 33 (0, 0))) hN
                      replace hrk := World.ownsRow.alloc hrk (.cells #[.int .i64 (m4 : Int), .int .i64 (pn4 : Int), .bool f4, .string t4, .slice a1 n1 c1, .slice a2 n2 c2, .slice a3 n3 c3] 33 (0, 0))
                      replace hrp := World.ownsRow.alloc hrp (.cells #[.int .i64 (m4 : Int), .int .i64 (pn4 : Int), .bool f4, .string t4, .slice a1 n1 c1, .slice a2 n2 c2, .slice a3 n3 c3] 33 (0, 0))
                      replace hri := World.ownsRow.alloc hri (.cells #[.int .i64 (m4 : Int), .int .i64 (pn4 : Int), .bool f4, .string t4, .slice a1 n1 c1, .slice a2 n2 c2, .slice a3 n3 c3] 33 (0, 0))
                      replace hgb := hgb.al (.cells #[.int .i64 (m4 : Int), .int .i64 (pn4 : Int), .bool f4, .string t4, .slice a1 n1 c1, .slice a2 n2 c2, .slice a3 n3 c3] 33 (0, 0))
                      generalize W1.alloc (.cells #[.int .i64 (m4 : Int), .int .i64 (pn4 : Int), .bool f4, .string t4, .slice a1 n1 c1, .slice a2 n2 c2, .slice a3 n3 c3] 33 (0, 0)) = W2 at hbi hbk hX hN hrk hrp hri hgb ⊢
                      refine wpAnyL_ready (rs := [4, 8]) (by kernel_rfl) (by simp) ?_
                      refine AllReadyL.cons (o := { dst := some 75, op := .call { callee := .builtin .append, args := #[.tmp 72, .tmp 74], argTypes := #[30, 30] }, type := 30, pos := "ref.go:149", after := #[{ on := 1, ground := .data }, { on := 3, ground := .data }], guard := none }) rfl (fun K hK => ?_) ?_
                      focus
                        refine step_app_row rfl _ _ 30 9 1 16 (.string ⟨#[]⟩) infoS18 rfl (by decide) (by decide) Tryz.underlying30 rfl (w.heap.size + 2) (.slice ka m kc) m (cs.map fun c => .string c.key) rfl hrk W0.heap.size 1 [.string key] _ _ rfl hbk rfl rfl hlm1 (Nat.le_trans hbs0 hgb.size) honeK ?_
                        intro vk' W3 hrk' hgk hok hsk
                        replace hok := own_tr hok hgb.size
                        have hnek := hnel _ (List.mem_cons_self ..)
                        replace hX := gr_keep hgk hX (ne_hi hnek hz6)
                        replace hN := gr_keep hgk hN (ne_lo hnek (Nat.lt_succ_of_lt (Nat.lt_succ_self _)))
                        replace hbi := gr_keep hgk hbi (fun e => by have := (hnek _ e).2; omega)
                        replace hrp := gr_row hgk hrp (rows_ne hrp hrk (by decide))
                        replace hri := gr_row hgk hri (rows_ne hri hrk (by decide))
                        replace hrk := hrk'
                        clear hrk'
                        replace hgb := hgb.app hgk (by simp)
                        clear hgk hbk
                        obtain ⟨k0', k1', k2', rfl⟩ := hsk
                        refine hK.out _ _ ⟨hX, fun _ => hN⟩ ?_
                        clear hK
                        (try simp only [Act.put, List.setIfInBounds_toArray, List.set_cons_zero, List.set_cons_succ])
                        refine wpAnyL_take0 (i := 15) (v := ?_) rfl (by decide) (by kernel_rfl) (by kernel_rfl) (by kernel_rfl) (fun _ _ _ h => h) (Or.inl ⟨by rfl, ?_⟩) ⟨hX, fun _ => hN⟩ ?_
                        rotate_left
                        · intro w; go_simp; try with_reducible rfl
                        (try simp only [Act.put, List.setIfInBounds_toArray, List.set_cons_zero, List.set_cons_succ])
                        refine wpAnyL_ready (rs := [8]) (by kernel_rfl) (by simp) ?_
                        refine AllReadyL.cons rfl (fun K hK => ?_) ?_
                        focus
                          go_simp
                          refine hK.out _ _ ⟨al_keep hX, fun _ => al_keep hN⟩ ?_
                          clear hK
                          (try simp only [Act.put, List.setIfInBounds_toArray, List.set_cons_zero, List.set_cons_succ])
                          have hbp := heap_alloc_new W3 (.cells #[.int .i64 (P1 : Int)] 3 (0, 0))
                          have hlbp := hgb.size
                          replace hbi := al_keep (o' := (.cells #[.int .i64 (P1 : Int)] 3 (0, 0))) hbi
                          replace hX := al_keep (o' := (.cells #[.int .i64 (P1 : Int)] 3 (0, 0))) hX
                          replace hN := al_keep (o' := (.cells #[.int .i64 (P1 : Int)] 3 (0, 0))) hN
                          replace hrk := World.ownsRow.alloc hrk (.cells #[.int .i64 (P1 : Int)] 3 (0, 0))
                          replace hrp := World.ownsRow.alloc hrp (.cells #[.int .i64 (P1 : Int)] 3 (0, 0))
                          replace hri := World.ownsRow.alloc hri (.cells #[.int .i64 (P1 : Int)] 3 (0, 0))
                          replace hgb := hgb.al (.cells #[.int .i64 (P1 : Int)] 3 (0, 0))
                          generalize W3.alloc (.cells #[.int .i64 (P1 : Int)] 3 (0, 0)) = W4 at hbp hbi hX hN hrk hrp hri hgb ⊢
                          refine wpAnyL_ready (rs := [9]) (by kernel_rfl) (by simp) ?_
                          refine AllReadyL.cons (o := { dst := some 80, op := .call { callee := .builtin .append, args := #[.tmp 77, .tmp 79], argTypes := #[31, 31] }, type := 31, pos := "ref.go:149", after := #[{ on := 6, ground := .data }, { on := 8, ground := .data }, { on := 4, ground := .chain }], guard := none }) rfl (fun K hK => ?_) ?_
                          focus
                            refine step_app_row rfl _ _ 31 3 1 8 (.int .i64 0) infoI18 rfl (by decide) (by decide) Tryz.underlying31 rfl (w.heap.size + 2) (.slice p0 p1 p2) m (cs.map fun c => .int .i64 (c.pl : Int)) rfl hrp W3.heap.size 1 [.int .i64 (P1 : Int)] _ _ rfl hbp rfl rfl hlm1 (Nat.le_trans hbs0 hgb.size) honeP ?_
                            intro vp' W5 hrp' hgp hop hsp
                            replace hop := own_tr hop hgb.size
                            have hnep := hnel _ (List.mem_cons_of_mem _ (List.mem_cons_self ..))
                            replace hX := gr_keep hgp hX (ne_hi hnep hz6)
                            replace hN := gr_keep hgp hN (ne_lo hnep (Nat.lt_succ_of_lt (Nat.lt_succ_self _)))
                            replace hbi := gr_keep hgp hbi (fun e => by have := (hnep _ e).2; omega)
                            replace hrk := gr_row hgp hrk (rows_ne hrk hrp (by decide))
                            replace hri := gr_row hgp hri (rows_ne hri hrp (by decide))
                            replace hrp := hrp'
                            clear hrp'
                            replace hgb := hgb.app hgp (by simp)
                            clear hgp hbp
                            obtain ⟨p0', p1', p2', rfl⟩ := hsp
                            refine hK.out _ _ ⟨hX, fun _ => hN⟩ ?_
                            clear hK
                            (try simp only [Act.put, List.setIfInBounds_toArray, List.set_cons_zero, List.set_cons_succ])
                            refine wpAnyL_ready (rs := [14]) (by kernel_rfl) (by simp) ?_
                            refine AllReadyL.cons (o := { dst := some 85, op := .call { callee := .builtin .append, args := #[.tmp 82, .tmp 84], argTypes := #[29, 29] }, type := 29, pos := "ref.go:149", after := #[{ on := 11, ground := .data }, { on := 13, ground := .data }, { on := 9, ground := .chain }], guard := none }) rfl (fun K hK => ?_) ?_
                            focus
                              refine step_app_row rfl _ _ 29 33 7 112 _ infoRd rfl (by decide) (by decide) Tryz.underlying29 rfl (w.heap.size + 2) (.slice i0 i1 i2) m (cs.flatMap RKid.u) rfl hri W1.heap.size 1 (rdC m4 pn4 f4 t4 (.slice a1 n1 c1) (.slice a2 n2 c2) (.slice a3 n3 c3)) _ _ rfl hbi rfl rfl hlm1 (Nat.le_trans hbs0 hgb.size) hone ?_
                              intro vi' W6 hri' hgi hoi hsi
                              replace hoi := own_tr hoi hgb.size
                              have hnei := hnel _ (List.mem_cons_of_mem _ (List.mem_cons_of_mem _ (List.mem_cons_self ..)))
                              replace hX := gr_keep hgi hX (ne_hi hnei hz6)
                              replace hN := gr_keep hgi hN (ne_lo hnei (Nat.lt_succ_of_lt (Nat.lt_succ_self _)))
                              replace hrk := gr_row hgi hrk (rows_ne hrk hri (by decide))
                              replace hrp := gr_row hgi hrp (rows_ne hrp hri (by decide))
                              replace hri := hri'
                              clear hri'
                              replace hgb := hgb.app hgi (by simp)
                              clear hgi hbi
                              obtain ⟨i0', i1', i2', rfl⟩ := hsi
                              refine hK.out _ _ ⟨hX, fun _ => hN⟩ ?_
                              clear hK
                              (try simp only [Act.put, List.setIfInBounds_toArray, List.set_cons_zero, List.set_cons_succ])
                            rotate_left 1
                            exact AllReadyL.nil
                          rotate_left 1
                          exact AllReadyL.nil
                        rotate_left 1
                        exact AllReadyL.nil
                      rotate_left 1
                      refine AllReadyL.cons rfl (fun K hK => ?_) ?_
                      focus
                        go_simp
                        refine hK.out _ _ ⟨al_keep hX, fun _ => al_keep hN⟩ ?_
                        clear hK
                        (try simp only [Act.put, List.setIfInBounds_toArray, List.set_cons_zero, List.set_cons_succ])
                        have hbp := heap_alloc_new W2 (.cells #[.int .i64 (P1 : Int)] 3 (0, 0))
                        have hlbp := hgb.size
                        replace hbi := al_keep (o' := (.cells #[.int .i64 (P1 : Int)] 3 (0, 0))) hbi
                        replace hbk := al_keep (o' := (.cells #[.int .i64 (P1 : Int)] 3 (0, 0))) hbk
                        replace hX := al_keep (o' := (.cells #[.int .i64 (P1 : Int)] 3 (0, 0))) hX
                        replace hN := al_keep (o' := (.cells #[.int .i64 (P1 : Int)] 3 (0, 0))) hN
                        replace hrk := World.ownsRow.alloc hrk (.cells #[.int .i64 (P1 : Int)] 3 (0, 0))
                        replace hrp := World.ownsRow.alloc hrp (.cells #[.int .i64 (P1 : Int)] 3 (0, 0))
                        replace hri := World.ownsRow.alloc hri (.cells #[.int .i64 (P1 : Int)] 3 (0, 0))
                        replace hgb := hgb.al (.cells #[.int .i64 (P1 : Int)] 3 (0, 0))
                        generalize W2.alloc (.cells #[.int .i64 (P1 : Int)] 3 (0, 0)) = W3 at hbp hbi hbk hX hN hrk hrp hri hgb ⊢
                        refine wpAnyL_ready (rs := [4]) (by kernel_rfl) (by simp) ?_
                        refine AllReadyL.cons (o := { dst := some 75, op := .call { callee := .builtin .append, args := #[.tmp 72, .tmp 74], argTypes := #[30, 30] }, type := 30, pos := "ref.go:149", after := #[{ on := 1, ground := .data }, { on := 3, ground := .data }], guard := none }) rfl (fun K hK => ?_) ?_
                        focus
                          refine step_app_row rfl _ _ 30 9 1 16 (.string ⟨#[]⟩) infoS18 rfl (by decide) (by decide) Tryz.underlying30 rfl (w.heap.size + 2) (.slice ka m kc) m (cs.map fun c => .string c.key) rfl hrk W0.heap.size 1 [.string key] _ _ rfl hbk rfl rfl hlm1 (Nat.le_trans hbs0 hgb.size) honeK ?_
                          intro vk' W4 hrk' hgk hok hsk
                          replace hok := own_tr hok hgb.size
                          have hnek := hnel _ (List.mem_cons_self ..)
                          replace hX := gr_keep hgk hX (ne_hi hnek hz6)
                          replace hN := gr_keep hgk hN (ne_lo hnek (Nat.lt_succ_of_lt (Nat.lt_succ_self _)))
                          replace hbi := gr_keep hgk hbi (fun e => by have := (hnek _ e).2; omega)
                          replace hbp := gr_keep hgk hbp (fun e => by have := (hnek _ e).2; omega)
                          replace hrp := gr_row hgk hrp (rows_ne hrp hrk (by decide))
                          replace hri := gr_row hgk hri (rows_ne hri hrk (by decide))
                          replace hrk := hrk'
                          clear hrk'
                          replace hgb := hgb.app hgk (by simp)
                          clear hgk hbk
                          obtain ⟨k0', k1', k2', rfl⟩ := hsk
                          refine hK.out _ _ ⟨hX, fun _ => hN⟩ ?_
                          clear hK
                          (try simp only [Act.put, List.setIfInBounds_toArray, List.set_cons_zero, List.set_cons_succ])
                          refine wpAnyL_take0 (i := 15) (v := ?_) rfl (by decide) (by kernel_rfl) (by kernel_rfl) (by kernel_rfl) (fun _ _ _ h => h) (Or.inl ⟨by rfl, ?_⟩) ⟨hX, fun _ => hN⟩ ?_
                          rotate_left
                          · intro w; go_simp; try with_reducible rfl
                          (try simp only [Act.put, List.setIfInBounds_toArray, List.set_cons_zero, List.set_cons_succ])
                          refine wpAnyL_ready (rs := [9]) (by kernel_rfl) (by simp) ?_
                          refine AllReadyL.cons (o := { dst := some 80, op := .call { callee := .builtin .append, args := #[.tmp 77, .tmp 79], argTypes := #[31, 31] }, type := 31, pos := "ref.go:149", after := #[{ on := 6, ground := .data }, { on := 8, ground := .data }, { on := 4, ground := .chain }], guard := none }) rfl (fun K hK => ?_) ?_
                          focus
                            refine step_app_row rfl _ _ 31 3 1 8 (.int .i64 0) infoI18 rfl (by decide) (by decide) Tryz.underlying31 rfl (w.heap.size + 2) (.slice p0 p1 p2) m (cs.map fun c => .int .i64 (c.pl : Int)) rfl hrp W2.heap.size 1 [.int .i64 (P1 : Int)] _ _ rfl hbp rfl rfl hlm1 (Nat.le_trans hbs0 hgb.size) honeP ?_
                            intro vp' W5 hrp' hgp hop hsp
                            replace hop := own_tr hop hgb.size
                            have hnep := hnel _ (List.mem_cons_of_mem _ (List.mem_cons_self ..))
                            replace hX := gr_keep hgp hX (ne_hi hnep hz6)
                            replace hN := gr_keep hgp hN (ne_lo hnep (Nat.lt_succ_of_lt (Nat.lt_succ_self _)))
                            replace hbi := gr_keep hgp hbi (fun e => by have := (hnep _ e).2; omega)
                            replace hrk := gr_row hgp hrk (rows_ne hrk hrp (by decide))
                            replace hri := gr_row hgp hri (rows_ne hri hrp (by decide))
                            replace hrp := hrp'
                            clear hrp'
                            replace hgb := hgb.app hgp (by simp)
                            clear hgp hbp
                            obtain ⟨p0', p1', p2', rfl⟩ := hsp
                            refine hK.out _ _ ⟨hX, fun _ => hN⟩ ?_
                            clear hK
                            (try simp only [Act.put, List.setIfInBounds_toArray, List.set_cons_zero, List.set_cons_succ])
                            refine wpAnyL_ready (rs := [14]) (by kernel_rfl) (by simp) ?_
                            refine AllReadyL.cons (o := { dst := some 85, op := .call { callee := .builtin .append, args := #[.tmp 82, .tmp 84], argTypes := #[29, 29] }, type := 29, pos := "ref.go:149", after := #[{ on := 11, ground := .data }, { on := 13, ground := .data }, { on := 9, ground := .chain }], guard := none }) rfl (fun K hK => ?_) ?_
                            focus
                              refine step_app_row rfl _ _ 29 33 7 112 _ infoRd rfl (by decide) (by decide) Tryz.underlying29 rfl (w.heap.size + 2) (.slice i0 i1 i2) m (cs.flatMap RKid.u) rfl hri W1.heap.size 1 (rdC m4 pn4 f4 t4 (.slice a1 n1 c1) (.slice a2 n2 c2) (.slice a3 n3 c3)) _ _ rfl hbi rfl rfl hlm1 (Nat.le_trans hbs0 hgb.size) hone ?_
                              intro vi' W6 hri' hgi hoi hsi
                              replace hoi := own_tr hoi hgb.size
                              have hnei := hnel _ (List.mem_cons_of_mem _ (List.mem_cons_of_mem _ (List.mem_cons_self ..)))
                              replace hX := gr_keep hgi hX (ne_hi hnei hz6)
                              replace hN := gr_keep hgi hN (ne_lo hnei (Nat.lt_succ_of_lt (Nat.lt_succ_self _)))
                              replace hrk := gr_row hgi hrk (rows_ne hrk hri (by decide))
                              replace hrp := gr_row hgi hrp (rows_ne hrp hri (by decide))
                              replace hri := hri'
                              clear hri'
                              replace hgb := hgb.app hgi (by simp)
                              clear hgi hbi
                              obtain ⟨i0', i1', i2', rfl⟩ := hsi
                              refine hK.out _ _ ⟨hX, fun _ => hN⟩ ?_
                              clear hK
                              (try simp only [Act.put, List.setIfInBounds_toArray, List.set_cons_zero, List.set_cons_succ])
                            rotate_left 1
                            exact AllReadyL.nil
                          rotate_left 1
                          exact AllReadyL.nil
                        rotate_left 1
                        exact AllReadyL.nil
                      rotate_left 1
                      exact AllReadyL.nil
                    rotate_left 2
                    exact AllReadyL.nil
                  rotate_left 8
                  refine AllReadyL.cons rfl (fun K hK => ?_) ?_
                  focus
                    go_simp
                    refine hK.out _ _ ⟨al_keep hX, fun _ => al_keep hN⟩ ?_
                    clear hK
                    (try simp only [Act.put, List.setIfInBounds_toArray, List.set_cons_zero, List.set_cons_succ])
                    have hbp := heap_alloc_new W0 (.cells #[.int .i64 (P1 : Int)] 3 (0, 0))
                    have hlbp := hgb.size
                    replace hX := al_keep (o' := (.cells #[.int .i64 (P1 : Int)] 3 (0, 0))) hX
                    replace hN := al_keep (o' := (.cells #[.int .i64 (P1 : Int)] 3 (0, 0))) hN
                    replace hrk := World.ownsRow.alloc hrk (.cells #[.int .i64 (P1 : Int)] 3 (0, 0))
                    replace hrp := World.ownsRow.alloc hrp (.cells #[.int .i64 (P1 : Int)] 3 (0, 0))
                    replace hri := World.ownsRow.alloc hri (.cells #[.int .i64 (P1 : Int)] 3 (0, 0))
                    replace hgb := hgb.al (.cells #[.int .i64 (P1 : Int)] 3 (0, 0))
                    generalize W0.alloc (.cells #[.int .i64 (P1 : Int)] 3 (0, 0)) = W1 at hbp  hX hN hrk hrp hri hgb ⊢
                    refine wpAnyL_ready (rs := [3, 13]) (by kernel_rfl) (by simp) ?_
                    refine AllReadyL.cons rfl (fun K hK => ?_) ?_
                    focus
                      go_simp
                      refine hK.out _ _ ⟨al_keep hX, fun _ => al_keep hN⟩ ?_
                      clear hK
                      (try simp only [Act.put, List.setIfInBounds_toArray, List.set_cons_zero, List.set_cons_succ])
                      have hbk := heap_alloc_new W1 (.cells #[.string key] 9 (0, 0))
                      have hlbk := hgb.size
                      replace hbp := al_keep (o' := (.cells #[.string key] 9 (0, 0))) hbp
                      replace hX := al_keep (o' := (.cells #[.string key] 9 (0, 0))) hX
                      replace hN := al_keep (o' := (.cells #[.string key] 9 (0, 0))) hN
                      replace hrk := World.ownsRow.alloc hrk (.cells #[.string key] 9 (0, 0))
                      replace hrp := World.ownsRow.alloc hrp (.cells #[.string key] 9 (0, 0))
                      replace hri := World.ownsRow.alloc hri (.cells #[.string key] 9 (0, 0))
                      replace hgb := hgb.al (.cells #[.string key] 9 (0, 0))
                      generalize W1.alloc (.cells #[.string key] 9 (0, 0)) = W2 at hbk hbp hX hN hrk hrp hri hgb ⊢
                      refine wpAnyL_ready (rs := [4, 13]) (by kernel_rfl) (by simp) ?_
                      refine AllReadyL.cons (o := { dst := some 75, op := .call { callee := .builtin .append, args := #[.tmp 72, .tmp 74], argTypes := #[30, 30] }, type := 30, pos := "ref.go:149", after := #[{ on := 1, ground := .data }, { on := 3, ground := .data }], guard := none }) rfl (fun K hK => ?_) ?_
                      focus
                        refine step_app_row rfl _ _ 30 9 1 16 (.string ⟨#[]⟩) infoS18 rfl (by decide) (by decide) Tryz.underlying30 rfl (w.heap.size + 2) (.slice ka m kc) m (cs.map fun c => .string c.key) rfl hrk W1.heap.size 1 [.string key] _ _ rfl hbk rfl rfl hlm1 (Nat.le_trans hbs0 hgb.size) honeK ?_
                        intro vk' W3 hrk' hgk hok hsk
                        replace hok := own_tr hok hgb.size
                        have hnek := hnel _ (List.mem_cons_self ..)
                        replace hX := gr_keep hgk hX (ne_hi hnek hz6)
                        replace hN := gr_keep hgk hN (ne_lo hnek (Nat.lt_succ_of_lt (Nat.lt_succ_self _)))
                        replace hbp := gr_keep hgk hbp (fun e => by have := (hnek _ e).2; omega)
                        replace hrp := gr_row hgk hrp (rows_ne hrp hrk (by decide))
                        replace hri := gr_row hgk hri (rows_ne hri hrk (by decide))
                        replace hrk := hrk'
                        clear hrk'
                        replace hgb := hgb.app hgk (by simp)
                        clear hgk hbk
                        obtain ⟨k0', k1', k2', rfl⟩ := hsk
                        refine hK.out _ _ ⟨hX, fun _ => hN⟩ ?_
                        clear hK
                        (try simp only [Act.put, List.setIfInBounds_toArray, List.set_cons_zero, List.set_cons_succ])
                        refine wpAnyL_take0 (i := 15) (v := ?_) rfl (by decide) (by kernel_rfl) (by kernel_rfl) (by kernel_rfl) (fun _ _ _ h => h) (Or.inl ⟨by rfl, ?_⟩) ⟨hX, fun _ => hN⟩ ?_
                        rotate_left
                        · intro w; go_simp; try with_reducible rfl
                        (try simp only [Act.put, List.setIfInBounds_toArray, List.set_cons_zero, List.set_cons_succ])
                        refine wpAnyL_ready (rs := [9, 13]) (by kernel_rfl) (by simp) ?_
                        refine AllReadyL.cons (o := { dst := some 80, op := .call { callee := .builtin .append, args := #[.tmp 77, .tmp 79], argTypes := #[31, 31] }, type := 31, pos := "ref.go:149", after := #[{ on := 6, ground := .data }, { on := 8, ground := .data }, { on := 4, ground := .chain }], guard := none }) rfl (fun K hK => ?_) ?_
                        focus
                          refine step_app_row rfl _ _ 31 3 1 8 (.int .i64 0) infoI18 rfl (by decide) (by decide) Tryz.underlying31 rfl (w.heap.size + 2) (.slice p0 p1 p2) m (cs.map fun c => .int .i64 (c.pl : Int)) rfl hrp W0.heap.size 1 [.int .i64 (P1 : Int)] _ _ rfl hbp rfl rfl hlm1 (Nat.le_trans hbs0 hgb.size) honeP ?_
                          intro vp' W4 hrp' hgp hop hsp
                          replace hop := own_tr hop hgb.size
                          have hnep := hnel _ (List.mem_cons_of_mem _ (List.mem_cons_self ..))
                          replace hX := gr_keep hgp hX (ne_hi hnep hz6)
                          replace hN := gr_keep hgp hN (ne_lo hnep (Nat.lt_succ_of_lt (Nat.lt_succ_self _)))
                          replace hrk := gr_row hgp hrk (rows_ne hrk hrp (by decide))
                          replace hri := gr_row hgp hri (rows_ne hri hrp (by decide))
                          replace hrp := hrp'
                          clear hrp'
                          replace hgb := hgb.app hgp (by simp)
                          clear hgp hbp
                          obtain ⟨p0', p1', p2', rfl⟩ := hsp
                          refine hK.out _ _ ⟨hX, fun _ => hN⟩ ?_
                          clear hK
                          (try simp only [Act.put, List.setIfInBounds_toArray, List.set_cons_zero, List.set_cons_succ])
                          refine wpAnyL_ready (rs := [13]) (by kernel_rfl) (by simp) ?_
                          refine AllReadyL.cons rfl (fun K hK => ?_) ?_
                          focus
                            go_simp
                            refine hK.out _ _ ⟨al_keep hX, fun _ => al_keep hN⟩ ?_
                            clear hK
                            (try simp only [Act.put, List.setIfInBounds_toArray, List.set_cons_zero, List.set_cons_succ])
                            have hbi := heap_alloc_new W4 (.cells #[.int .i64 (m4 : Int), .int .i64 (pn4 : Int), .bool f4, .string t4, .slice a1 n1 c1, .slice a2 n2 c2, .slice a3 n3 c3] 33 (0, 0))
                            have hlbi := hgb.size
                            replace hX := al_keep (o' := (.cells #[.int .i64 (m4 : Int), .int .i64 (pn4 : Int), .bool f4, .string t4, .slice a1 n1 c1, .slice a2 n2 c2, .slice a3 n3 c3] 33 (0, 0))) hX
                            replace hN := al_keep (o' := (.cells #[.int .i64 (m4 : Int), .int .i64 (pn4 : Int), .bool f4, .string t4, .slice a1 n1 c1, .slice a2 n2 c2, .slice a3 n3 c3] 33 (0, 0))) hN
                            replace hrk := World.ownsRow.alloc hrk (.cells #[.int .i64 (m4 : Int), .int .i64 (pn4 : Int), .bool f4, .string t4, .slice a1 n1 c1, .slice a2 n2 c2, .slice a3 n3 c3] 33 (0, 0))
                            replace hrp := World.ownsRow.alloc hrp (.cells #[.int .i64 (m4 : Int), .int .i64 (pn4 : Int), .bool f4, .string t4, .slice a1 n1 c1, .slice a2 n2 c2, .slice a3 n3 c3] 33 (0, 0))
                            replace hri := World.ownsRow.alloc hri (.cells #[.int .i64 (m4 : Int), .int .i64 (pn4 : Int), .bool f4, .string t4, .slice a1 n1 c1, .slice a2 n2 c2, .slice a3 n3 c3] 33 (0, 0))
                            replace hgb := hgb.al (.cells #[.int .i64 (m4 : Int), .int .i64 (pn4 : Int), .bool f4, .string t4, .slice a1 n1 c1, .slice a2 n2 c2, .slice a3 n3 c3] 33 (0, 0))
                            generalize W4.alloc (.cells #[.int .i64 (m4 : Int), .int .i64 (pn4 : Int), .bool f4, .string t4, .slice a1 n1 c1, .slice a2 n2 c2, .slice a3 n3 c3] 33 (0, 0)) = W5 at hbi  hX hN hrk hrp hri hgb ⊢
                            refine wpAnyL_ready (rs := [14]) (by kernel_rfl) (by simp) ?_
                            refine AllReadyL.cons (o := { dst := some 85, op := .call { callee := .builtin .append, args := #[.tmp 82, .tmp 84], argTypes := #[29, 29] }, type := 29, pos := "ref.go:149", after := #[{ on := 11, ground := .data }, { on := 13, ground := .data }, { on := 9, ground := .chain }], guard := none }) rfl (fun K hK => ?_) ?_
                            focus
                              refine step_app_row rfl _ _ 29 33 7 112 _ infoRd rfl (by decide) (by decide) Tryz.underlying29 rfl (w.heap.size + 2) (.slice i0 i1 i2) m (cs.flatMap RKid.u) rfl hri W4.heap.size 1 (rdC m4 pn4 f4 t4 (.slice a1 n1 c1) (.slice a2 n2 c2) (.slice a3 n3 c3)) _ _ rfl hbi rfl rfl hlm1 (Nat.le_trans hbs0 hgb.size) hone ?_
                              intro vi' W6 hri' hgi hoi hsi
                              replace hoi := own_tr hoi hgb.size
                              have hnei := hnel _ (List.mem_cons_of_mem _ (List.mem_cons_of_mem _ (List.mem_cons_self ..)))
                              replace hX := gr_keep hgi hX (ne_hi hnei hz6)
                              replace hN := gr_keep hgi hN (ne_lo hnei (Nat.lt_succ_of_lt (Nat.lt_succ_self _)))
                              replace hrk := gr_row hgi hrk (rows_ne hrk hri (by decide))
                              replace hrp := gr_row hgi hrp (rows_ne hrp hri (by decide))
                              replace hri := hri'
                              clear hri'
                              replace hgb := hgb.app hgi (by simp)
                              clear hgi hbi
                              obtain ⟨i0', i1', i2', rfl⟩ := hsi
                              refine hK.out _ _ ⟨hX, fun _ => hN⟩ ?_
                              clear hK
                              (try simp only [Act.put, List.setIfInBounds_toArray, List.set_cons_zero, List.set_cons_succ])
                            rotate_left 1
                            exact AllReadyL.nil
                          rotate_left 1
                          exact AllReadyL.nil
                        rotate_left 1
                        refine AllReadyL.cons rfl (fun K hK => ?_) ?_
                        focus
                          go_simp
                          refine hK.out _ _ ⟨al_keep hX, fun _ => al_keep hN⟩ ?_
                          clear hK
                          (try simp only [Act.put, List.setIfInBounds_toArray, List.set_cons_zero, List.set_cons_succ])
                          have hbi := heap_alloc_new W3 (.cells #[.int .i64 (m4 : Int), .int .i64 (pn4 : Int), .bool f4, .string t4, .slice a1 n1 c1, .slice a2 n2 c2, .slice a3 n3 c3] 33 (0, 0))
                          have hlbi := hgb.size
                          replace hbp := al_keep (o' := (.cells #[.int .i64 (m4 : Int), .int .i64 (pn4 : Int), .bool f4, .string t4, .slice a1 n1 c1, .slice a2 n2 c2, .slice a3 n3 c3] 33 (0, 0))) hbp
                          replace hX := al_keep (o' := (.cells #[.int .i64 (m4 : Int), .int .i64 (pn4 : Int), .bool f4, .string t4, .slice a1 n1 c1, .slice a2 n2 c2, .slice a3 n3 c3] 33 (0, 0))) hX
                          replace hN := al_keep (o' := (.cells #[.int .i64 (m4 : Int), .int .i64 (pn4 : Int), .bool f4, .string t4, .slice a1 n1 c1, .slice a2 n2 c2, .slice a3 n3 c3] 33 (0, 0))) hN
                          replace hrk := World.ownsRow.alloc hrk (.cells #[.int .i64 (m4 : Int), .int .i64 (pn4 : Int), .bool f4, .string t4, .slice a1 n1 c1, .slice a2 n2 c2, .slice a3 n3 c3] 33 (0, 0))
                          replace hrp := World.ownsRow.alloc hrp (.cells #[.int .i64 (m4 : Int), .int .i64 (pn4 : Int), .bool f4, .string t4, .slice a1 n1 c1, .slice a2 n2 c2, .slice a3 n3 c3] 33 (0, 0))
                          replace hri := World.ownsRow.alloc hri (.cells #[.int .i64 (m4 : Int), .int .i64 (pn4 : Int), .bool f4, .string t4, .slice a1 n1 c1, .slice a2 n2 c2, .slice a3 n3 c3] 33 (0, 0))
                          replace hgb := hgb.al (.cells #[.int .i64 (m4 : Int), .int .i64 (pn4 : Int), .bool f4, .string t4, .slice a1 n1 c1, .slice a2 n2 c2, .slice a3 n3 c3] 33 (0, 0))
                          generalize W3.alloc (.cells #[.int .i64 (m4 : Int), .int .i64 (pn4 : Int), .bool f4, .string t4, .slice a1 n1 c1, .slice a2 n2 c2, .slice a3 n3 c3] 33 (0, 0)) = W4 at hbi hbp hX hN hrk hrp hri hgb ⊢
                          refine wpAnyL_ready (rs := [9]) (by kernel_rfl) (by simp) ?_
                          refine AllReadyL.cons (o := { dst := some 80, op := .call { callee := .builtin .append, args := #[.tmp 77, .tmp 79], argTypes := #[31, 31] }, type := 31, pos := "ref.go:149", after := #[{ on := 6, ground := .data }, { on := 8, ground := .data }, { on := 4, ground := .chain }], guard := none }) rfl (fun K hK => ?_) ?_
                          focus
                            refine step_app_row rfl _ _ 31 3 1 8 (.int .i64 0) infoI18 rfl (by decide) (by decide) Tryz.underlying31 rfl (w.heap.size + 2) (.slice p0 p1 p2) m (cs.map fun c => .int .i64 (c.pl : Int)) rfl hrp W0.heap.size 1 [.int .i64 (P1 : Int)] _ _ rfl hbp rfl rfl hlm1 (Nat.le_trans hbs0 hgb.size) honeP ?_
                            intro vp' W5 hrp' hgp hop hsp
                            replace hop := own_tr hop hgb.size
                            have hnep := hnel _ (List.mem_cons_of_mem _ (List.mem_cons_self ..))
                            replace hX := gr_keep hgp hX (ne_hi hnep hz6)
                            replace hN := gr_keep hgp hN (ne_lo hnep (Nat.lt_succ_of_lt (Nat.lt_succ_self _)))
                            replace hbi := gr_keep hgp hbi (fun e => by have := (hnep _ e).2; omega)
                            replace hrk := gr_row hgp hrk (rows_ne hrk hrp (by decide))
                            replace hri := gr_row hgp hri (rows_ne hri hrp (by decide))
                            replace hrp := hrp'
                            clear hrp'
                            replace hgb := hgb.app hgp (by simp)
                            clear hgp hbp
                            obtain ⟨p0', p1', p2', rfl⟩ := hsp
                            refine hK.out _ _ ⟨hX, fun _ => hN⟩ ?_
                            clear hK
                            (try simp only [Act.put, List.setIfInBounds_toArray, List.set_cons_zero, List.set_cons_succ])
                            refine wpAnyL_ready (rs := [14]) (by kernel_rfl) (by simp) ?_
                            refine AllReadyL.cons (o := { dst := some 85, op := .call { callee := .builtin .append, args := #[.tmp 82, .tmp 84], argTypes := #[29, 29] }, type := 29, pos := "ref.go:149", after := #[{ on := 11, ground := .data }, { on := 13, ground := .data }, { on := 9, ground := .chain }], guard := none }) rfl (fun K hK => ?_) ?_
                            focus
                              refine step_app_row rfl _ _ 29 33 7 112 _ infoRd rfl (by decide) (by decide) Tryz.underlying29 rfl (w.heap.size + 2) (.slice i0 i1 i2) m (cs.flatMap RKid.u) rfl hri W3.heap.size 1 (rdC m4 pn4 f4 t4 (.slice a1 n1 c1) (.slice a2 n2 c2) (.slice a3 n3 c3)) _ _ rfl hbi rfl rfl hlm1 (Nat.le_trans hbs0 hgb.size) hone ?_
                              intro vi' W6 hri' hgi hoi hsi
                              replace hoi := own_tr hoi hgb.size
                              have hnei := hnel _ (List.mem_cons_of_mem _ (List.mem_cons_of_mem _ (List.mem_cons_self ..)))
                              replace hX := gr_keep hgi hX (ne_hi hnei hz6)
                              replace hN := gr_keep hgi hN (ne_lo hnei (Nat.lt_succ_of_lt (Nat.lt_succ_self _)))
                              replace hrk := gr_row hgi hrk (rows_ne hrk hri (by decide))
                              replace hrp := gr_row hgi hrp (rows_ne hrp hri (by decide))
                              replace hri := hri'
                              clear hri'
                              replace hgb := hgb.app hgi (by simp)
                              clear hgi hbi
                              obtain ⟨i0', i1', i2', rfl⟩ := hsi
                              refine hK.out _ _ ⟨hX, fun _ => hN⟩ ?_
                              clear hK
                              (try simp only [Act.put, List.setIfInBounds_toArray, List.set_cons_zero, List.set_cons_succ])
                            rotate_left 1
                            exact AllReadyL.nil
                          rotate_left 1
                          exact AllReadyL.nil
                        rotate_left 1
                        exact AllReadyL.nil
                      rotate_left 2
                      refine AllReadyL.cons rfl (fun K hK => ?_) ?_
                      focus
                        go_simp
                        refine hK.out _ _ ⟨al_keep hX, fun _ => al_keep hN⟩ ?_
                        clear hK
                        (try simp only [Act.put, List.setIfInBounds_toArray, List.set_cons_zero, List.set_cons_succ])
                        have hbi := heap_alloc_new W2 (.cells #[.int .i64 (m4 : Int), .int .i64 (pn4 : Int), .bool f4, .string t4, .slice a1 n1 c1, .slice a2 n2 c2, .slice a3 n3 c3] 33 (0, 0))
                        have hlbi := hgb.size
                        replace hbk := al_keep (o' := (.cells #[.int .i64 (m4 : Int), .int .i64 (pn4 : Int), .bool f4, .string t4, .slice a1 n1 c1, .slice a2 n2 c2, .slice a3 n3 c3] 33 (0, 0))) hbk
                        replace hbp := al_keep (o' := (.cells #[.int .i64 (m4 : Int), .int .i64 (pn4 : Int), .bool f4, .string t4, .slice a1 n1 c1, .slice a2 n2 c2, .slice a3 n3 c3] 33 (0, 0))) hbp
                        replace hX := al_keep (o' := (.cells #[.int .i64 (m4 : Int), .int .i64 (pn4 : Int), .bool f4, .string t4, .slice a1 n1 c1, .slice a2 n2 c2, .slice a3 n3 c3] 33 (0, 0))) hX
                        replace hN := al_keep (o' := (.cells #[.int .i64 (m4 : Int), .int .i64 (pn4 : Int), .bool f4, .string t4, .slice a1 n1 c1, .slice a2 n2 c2, .slice a3 n3 c3] 33 (0, 0))) hN
                        replace hrk := World.ownsRow.alloc hrk (.cells #[.int .i64 (m4 : Int), .int .i64 (pn4 : Int), .bool f4, .string t4, .slice a1 n1 c1, .slice a2 n2 c2, .slice a3 n3 c3] 33 (0, 0))
                        replace hrp := World.ownsRow.alloc hrp (.cells #[.int .i64 (m4 : Int), .int .i64 (pn4 : Int), .bool f4, .string t4, .slice a1 n1 c1, .slice a2 n2 c2, .slice a3 n3 c3] 33 (0, 0))
                        replace hri := World.ownsRow.alloc hri (.cells #[.int .i64 (m4 : Int), .int .i64 (pn4 : Int), .bool f4, .string t4, .slice a1 n1 c1, .slice a2 n2 c2, .slice a3 n3 c3] 33 (0, 0))
                        replace hgb := hgb.al (.cells #[.int .i64 (m4 : Int), .int .i64 (pn4 : Int), .bool f4, .string t4, .slice a1 n1 c1, .slice a2 n2 c2, .slice a3 n3 c3] 33 (0, 0))
                        generalize W2.alloc (.cells #[.int .i64 (m4 : Int), .int .i64 (pn4 : Int), .bool f4, .string t4, .slice a1 n1 c1, .slice a2 n2 c2, .slice a3 n3 c3] 33 (0, 0)) = W3 at hbi hbk hbp hX hN hrk hrp hri hgb ⊢
                        refine wpAnyL_ready (rs := [4]) (by kernel_rfl) (by simp) ?_
                        refine AllReadyL.cons (o := { dst := some 75, op := .call { callee := .builtin .append, args := #[.tmp 72, .tmp 74], argTypes := #[30, 30] }, type := 30, pos := "ref.go:149", after := #[{ on := 1, ground := .data }, { on := 3, ground := .data }], guard := none }) rfl (fun K hK => ?_) ?_
                        focus
                          refine step_app_row rfl _ _ 30 9 1 16 (.string ⟨#[]⟩) infoS18 rfl (by decide) (by decide) Tryz.underlying30 rfl (w.heap.size + 2) (.slice ka m kc) m (cs.map fun c => .string c.key) rfl hrk W1.heap.size 1 [.string key] _ _ rfl hbk rfl rfl hlm1 (Nat.le_trans hbs0 hgb.size) honeK ?_
                          intro vk' W4 hrk' hgk hok hsk
                          replace hok := own_tr hok hgb.size
                          have hnek := hnel _ (List.mem_cons_self ..)
                          replace hX := gr_keep hgk hX (ne_hi hnek hz6)
                          replace hN := gr_keep hgk hN (ne_lo hnek (Nat.lt_succ_of_lt (Nat.lt_succ_self _)))
                          replace hbi := gr_keep hgk hbi (fun e => by have := (hnek _ e).2; omega)
                          replace hbp := gr_keep hgk hbp (fun e => by have := (hnek _ e).2; omega)
                          replace hrp := gr_row hgk hrp (rows_ne hrp hrk (by decide))
                          replace hri := gr_row hgk hri (rows_ne hri hrk (by decide))
                          replace hrk := hrk'
                          clear hrk'
                          replace hgb := hgb.app hgk (by simp)
                          clear hgk hbk
                          obtain ⟨k0', k1', k2', rfl⟩ := hsk
                          refine hK.out _ _ ⟨hX, fun _ => hN⟩ ?_
                          clear hK
                          (try simp only [Act.put, List.setIfInBounds_toArray, List.set_cons_zero, List.set_cons_succ])
                          refine wpAnyL_take0 (i := 15) (v := ?_) rfl (by decide) (by kernel_rfl) (by kernel_rfl) (by kernel_rfl) (fun _ _ _ h => h) (Or.inl ⟨by rfl, ?_⟩) ⟨hX, fun _ => hN⟩ ?_
                          rotate_left
                          · intro w; go_simp; try with_reducible rfl
                          (try simp only [Act.put, List.setIfInBounds_toArray, List.set_cons_zero, List.set_cons_succ])
                          refine wpAnyL_ready (rs := [9]) (by kernel_rfl) (by simp) ?_
                          refine AllReadyL.cons (o := { dst := some 80, op := .call { callee := .builtin .append, args := #[.tmp 77, .tmp 79], argTypes := #[31, 31] }, type := 31, pos := "ref.go:149", after := #[{ on := 6, ground := .data }, { on := 8, ground := .data }, { on := 4, ground := .chain }], guard := none }) rfl (fun K hK => ?_) ?_
                          focus
                            refine step_app_row rfl _ _ 31 3 1 8 (.int .i64 0) infoI18 rfl (by decide) (by decide) Tryz.underlying31 rfl (w.heap.size + 2) (.slice p0 p1 p2) m (cs.map fun c => .int .i64 (c.pl : Int)) rfl hrp W0.heap.size 1 [.int .i64 (P1 : Int)] _ _ rfl hbp rfl rfl hlm1 (Nat.le_trans hbs0 hgb.size) honeP ?_
                            intro vp' W5 hrp' hgp hop hsp
                            replace hop := own_tr hop hgb.size
                            have hnep := hnel _ (List.mem_cons_of_mem _ (List.mem_cons_self ..))
                            replace hX := gr_keep hgp hX (ne_hi hnep hz6)
                            replace hN := gr_keep hgp hN (ne_lo hnep (Nat.lt_succ_of_lt (Nat.lt_succ_self _)))
                            replace hbi := gr_keep hgp hbi (fun e => by have := (hnep _ e).2; omega)
                            replace hrk := gr_row hgp hrk (rows_ne hrk hrp (by decide))
                            replace hri := gr_row hgp hri (rows_ne hri hrp (by decide))
                            replace hrp := hrp'
                            clear hrp'
                            replace hgb := hgb.app hgp (by simp)
                            clear hgp hbp
                            obtain ⟨p0', p1', p2', rfl⟩ := hsp
                            refine hK.out _ _ ⟨hX, fun _ => hN⟩ ?_
                            clear hK
                            (try simp only [Act.put, List.setIfInBounds_toArray, List.set_cons_zero, List.set_cons_succ])
                            refine wpAnyL_ready (rs := [14]) (by kernel_rfl) (by simp) ?_
                            refine AllReadyL.cons (o := { dst := some 85, op := .call { callee := .builtin .append, args := #[.tmp 82, .tmp 84], argTypes := #[29, 29] }, type := 29, pos := "ref.go:149", after := #[{ on := 11, ground := .data }, { on := 13, ground := .data }, { on := 9, ground := .chain }], guard := none }) rfl (fun K hK => ?_) ?_
                            focus
                              refine step_app_row rfl _ _ 29 33 7 112 _ infoRd rfl (by decide) (by decide) Tryz.underlying29 rfl (w.heap.size + 2) (.slice i0 i1 i2) m (cs.flatMap RKid.u) rfl hri W2.heap.size 1 (rdC m4 pn4 f4 t4 (.slice a1 n1 c1) (.slice a2 n2 c2) (.slice a3 n3 c3)) _ _ rfl hbi rfl rfl hlm1 (Nat.le_trans hbs0 hgb.size) hone ?_
                              intro vi' W6 hri' hgi hoi hsi
                              replace hoi := own_tr hoi hgb.size
                              have hnei := hnel _ (List.mem_cons_of_mem _ (List.mem_cons_of_mem _ (List.mem_cons_self ..)))
                              replace hX := gr_keep hgi hX (ne_hi hnei hz6)
                              replace hN := gr_keep hgi hN (ne_lo hnei (Nat.lt_succ_of_lt (Nat.lt_succ_self _)))
                              replace hrk := gr_row hgi hrk (rows_ne hrk hri (by decide))
                              replace hrp := gr_row hgi hrp (rows_ne hrp hri (by decide))
                              replace hri := hri'
                              clear hri'
                              replace hgb := hgb.app hgi (by simp)
                              clear hgi hbi
                              obtain ⟨i0', i1', i2', rfl⟩ := hsi
                              refine hK.out _ _ ⟨hX, fun _ => hN⟩ ?_
                              clear hK
                              (try simp only [Act.put, List.setIfInBounds_toArray, List.set_cons_zero, List.set_cons_succ])
                            rotate_left 1
                            exact AllReadyL.nil
                          rotate_left 1
                          exact AllReadyL.nil
                        rotate_left 1
                        exact AllReadyL.nil
                      rotate_left 1
                      exact AllReadyL.nil
                    rotate_left 3
                    refine AllReadyL.cons rfl (fun K hK => ?_) ?_
                    focus
                      go_simp
                      refine hK.out _ _ ⟨al_keep hX, fun _ => al_keep hN⟩ ?_
                      clear hK
                      (try simp only [Act.put, List.setIfInBounds_toArray, List.set_cons_zero, List.set_cons_succ])
                      have hbi := heap_alloc_new W1 (.cells #[.int .i64 (m4 : Int), .int .i64 (pn4 : Int), .bool f4, .string t4, .slice a1 n1 c1, .slice a2 n2 c2, .slice a3 n3 c3] 33 (0, 0))
                      have hlbi := hgb.size
                      replace hbp := al_keep (o' := (.cells #[.int .i64 (m4 : Int), .int .i64 (pn4 : Int), .bool f4, .string t4, .slice a1 n1 c1, .slice a2 n2 c2, .slice a3 n3 c3] 33 (0, 0))) hbp
                      replace hX := al_keep (o' := (.cells #[.int .i64 (m4 : Int), .int .i64 (pn4 : Int), .bool f4, .string t4, .slice a1 n1 c1, .slice a2 n2 c2, .slice a3 n3 c3] 33 (0, 0))) hX
                      replace hN := al_keep (o' := (.cells #[.int .i64 (m4 : Int), .int .i64 (pn4 : Int), .bool f4, .string t4, .slice a1 n1 c1, .slice a2 n2 c2, .slice a3 n3 c3] 33 (0, 0))) hN
                      replace hrk := World.ownsRow.alloc hrk (.cells #[.int .i64 (m4 : Int), .int .i64 (pn4 : Int), .bool f4, .string t4, .slice a1 n1 c1, .slice a2 n2 c2, .slice a3 n3 c3] 33 (0, 0))
                      replace hrp := World.ownsRow.alloc hrp (.cells #[.int .i64 (m4 : Int), .int .i64 (pn4 : Int), .bool f4, .string t4, .slice a1 n1 c1, .slice a2 n2 c2, .slice a3 n3 c3] 33 (0, 0))
                      replace hri := World.ownsRow.alloc hri (.cells #[.int .i64 (m4 : Int), .int .i64 (pn4 : Int), .bool f4, .string t4, .slice a1 n1 c1, .slice a2 n2 c2, .slice a3 n3 c3] 33 (0, 0))
                      replace hgb := hgb.al (.cells #[.int .i64 (m4 : Int), .int .i64 (pn4 : Int), .bool f4, .string t4, .slice a1 n1 c1, .slice a2 n2 c2, .slice a3 n3 c3] 33 (0, 0))
                      generalize W1.alloc (.cells #[.int .i64 (m4 : Int), .int .i64 (pn4 : Int), .bool f4, .string t4, .slice a1 n1 c1, .slice a2 n2 c2, .slice a3 n3 c3] 33 (0, 0)) = W2 at hbi hbp hX hN hrk hrp hri hgb ⊢
                      refine wpAnyL_ready (rs := [3]) (by kernel_rfl) (by simp) ?_
                      refine AllReadyL.cons rfl (fun K hK => ?_) ?_
                      focus
                        go_simp
                        refine hK.out _ _ ⟨al_keep hX, fun _ => al_keep hN⟩ ?_
                        clear hK
                        (try simp only [Act.put, List.setIfInBounds_toArray, List.set_cons_zero, List.set_cons_succ])
                        have hbk := heap_alloc_new W2 (.cells #[.string key] 9 (0, 0))
                        have hlbk := hgb.size
                        replace hbi := al_keep (o' := (.cells #[.string key] 9 (0, 0))) hbi
                        replace hbp := al_keep (o' := (.cells #[.string key] 9 (0, 0))) hbp
                        replace hX := al_keep (o' := (.cells #[.string key] 9 (0, 0))) hX
                        replace hN := al_keep (o' := (.cells #[.string key] 9 (0, 0))) hN
                        replace hrk := World.ownsRow.alloc hrk (.cells #[.string key] 9 (0, 0))
                        replace hrp := World.ownsRow.alloc hrp (.cells #[.string key] 9 (0, 0))
                        replace hri := World.ownsRow.alloc hri (.cells #[.string key] 9 (0, 0))
                        replace hgb := hgb.al (.cells #[.string key] 9 (0, 0))
                        generalize W2.alloc (.cells #[.string key] 9 (0, 0)) = W3 at hbk hbi hbp hX hN hrk hrp hri hgb ⊢
                        refine wpAnyL_ready (rs := [4]) (by kernel_rfl) (by simp) ?_
                        refine AllReadyL.cons (o := { dst := some 75, op := .call { callee := .builtin .append, args := #[.tmp 72, .tmp 74], argTypes := #[30, 30] }, type := 30, pos := "ref.go:149", after := #[{ on := 1, ground := .data }, { on := 3, ground := .data }], guard := none }) rfl (fun K hK => ?_) ?_
                        focus
                          refine step_app_row rfl _ _ 30 9 1 16 (.string ⟨#[]⟩) infoS18 rfl (by decide) (by decide) Tryz.underlying30 rfl (w.heap.size + 2) (.slice ka m kc) m (cs.map fun c => .string c.key) rfl hrk W2.heap.size 1 [.string key] _ _ rfl hbk rfl rfl hlm1 (Nat.le_trans hbs0 hgb.size) honeK ?_
                          intro vk' W4 hrk' hgk hok hsk
                          replace hok := own_tr hok hgb.size
                          have hnek := hnel _ (List.mem_cons_self ..)
                          replace hX := gr_keep hgk hX (ne_hi hnek hz6)
                          replace hN := gr_keep hgk hN (ne_lo hnek (Nat.lt_succ_of_lt (Nat.lt_succ_self _)))
                          replace hbi := gr_keep hgk hbi (fun e => by have := (hnek _ e).2; omega)
                          replace hbp := gr_keep hgk hbp (fun e => by have := (hnek _ e).2; omega)
                          replace hrp := gr_row hgk hrp (rows_ne hrp hrk (by decide))
                          replace hri := gr_row hgk hri (rows_ne hri hrk (by decide))
                          replace hrk := hrk'
                          clear hrk'
                          replace hgb := hgb.app hgk (by simp)
                          clear hgk hbk
                          obtain ⟨k0', k1', k2', rfl⟩ := hsk
                          refine hK.out _ _ ⟨hX, fun _ => hN⟩ ?_
                          clear hK
                          (try simp only [Act.put, List.setIfInBounds_toArray, List.set_cons_zero, List.set_cons_succ])
                          refine wpAnyL_take0 (i := 15) (v := ?_) rfl (by decide) (by kernel_rfl) (by kernel_rfl) (by kernel_rfl) (fun _ _ _ h => h) (Or.inl ⟨by rfl, ?_⟩) ⟨hX, fun _ => hN⟩ ?_
                          rotate_left
                          · intro w; go_simp; try with_reducible rfl
                          (try simp only [Act.put, List.setIfInBounds_toArray, List.set_cons_zero, List.set_cons_succ])
                          refine wpAnyL_ready (rs := [9]) (by kernel_rfl) (by simp) ?_
                          refine AllReadyL.cons (o := { dst := some 80, op := .call { callee := .builtin .append, args := #[.tmp 77, .tmp 79], argTypes := #[31, 31] }, type := 31, pos := "ref.go:149", after := #[{ on := 6, ground := .data }, { on := 8, ground := .data }, { on := 4, ground := .chain }], guard := none }) rfl (fun K hK => ?_) ?_
                          focus
                            refine step_app_row rfl _ _ 31 3 1 8 (.int .i64 0) infoI18 rfl (by decide) (by decide) Tryz.underlying31 rfl (w.heap.size + 2) (.slice p0 p1 p2) m (cs.map fun c => .int .i64 (c.pl : Int)) rfl hrp W0.heap.size 1 [.int .i64 (P1 : Int)] _ _ rfl hbp rfl rfl hlm1 (Nat.le_trans hbs0 hgb.size) honeP ?_
                            intro vp' W5 hrp' hgp hop hsp
                            replace hop := own_tr hop hgb.size
                            have hnep := hnel _ (List.mem_cons_of_mem _ (List.mem_cons_self ..))
                            replace hX := gr_keep hgp hX (ne_hi hnep hz6)
                            replace hN := gr_keep hgp hN (ne_lo hnep (Nat.lt_succ_of_lt (Nat.lt_succ_self _)))
                            replace hbi := gr_keep hgp hbi (fun e => by have := (hnep _ e).2; omega)
                            replace hrk := gr_row hgp hrk (rows_ne hrk hrp (by decide))
                            replace hri := gr_row hgp hri (rows_ne hri hrp (by decide))
                            replace hrp := hrp'
                            clear hrp'
                            replace hgb := hgb.app hgp (by simp)
                            clear hgp hbp
                            obtain ⟨p0', p1', p2', rfl⟩ := hsp
                            refine hK.out _ _ ⟨hX, fun _ => hN⟩ ?_
                            clear hK
                            (try simp only [Act.put, List.setIfInBounds_toArray, List.set_cons_zero, List.set_cons_succ])
                            refine wpAnyL_ready (rs := [14]) (by kernel_rfl) (by simp) ?_
                            refine AllReadyL.cons (o := { dst := some 85, op := .call { callee := .builtin .append, args := #[.tmp 82, .tmp 84], argTypes := #[29, 29] }, type := 29, pos := "ref.go:149", after := #[{ on := 11, ground := .data }, { on := 13, ground := .data }, { on := 9, ground := .chain }], guard := none }) rfl (fun K hK => ?_) ?_
                            focus
                              refine step_app_row rfl _ _ 29 33 7 112 _ infoRd rfl (by decide) (by decide) Tryz.underlying29 rfl (w.heap.size + 2) (.slice i0 i1 i2) m (cs.flatMap RKid.u) rfl hri W1.heap.size 1 (rdC m4 pn4 f4 t4 (.slice a1 n1 c1) (.slice a2 n2 c2) (.slice a3 n3 c3)) _ _ rfl hbi rfl rfl hlm1 (Nat.le_trans hbs0 hgb.size) hone ?_
                              intro vi' W6 hri' hgi hoi hsi
                              replace hoi := own_tr hoi hgb.size
                              have hnei := hnel _ (List.mem_cons_of_mem _ (List.mem_cons_of_mem _ (List.mem_cons_self ..)))
                              replace hX := gr_keep hgi hX (ne_hi hnei hz6)
                              replace hN := gr_keep hgi hN (ne_lo hnei (Nat.lt_succ_of_lt (Nat.lt_succ_self _)))
                              replace hrk := gr_row hgi hrk (rows_ne hrk hri (by decide))
                              replace hrp := gr_row hgi hrp (rows_ne hrp hri (by decide))
                              replace hri := hri'
                              clear hri'
                              replace hgb := hgb.app hgi (by simp)
                              clear hgi hbi
                              obtain ⟨i0', i1', i2', rfl⟩ := hsi
                              refine hK.out _ _ ⟨hX, fun _ => hN⟩ ?_
                              clear hK
                              (try simp only [Act.put, List.setIfInBounds_toArray, List.set_cons_zero, List.set_cons_succ])
                            rotate_left 1
                            exact AllReadyL.nil
                          rotate_left 1
                          exact AllReadyL.nil
                        rotate_left 1
                        exact AllReadyL.nil
                      rotate_left 1
                      exact AllReadyL.nil
                    rotate_left 1
                    exact AllReadyL.nil
                  rotate_left 4
                  refine AllReadyL.cons rfl (fun K hK => ?_) ?_
                  focus
                    go_simp
                    refine hK.out _ _ ⟨al_keep hX, fun _ => al_keep hN⟩ ?_
                    clear hK
                    (try simp only [Act.put, List.setIfInBounds_toArray, List.set_cons_zero, List.set_cons_succ])
                    have hbi := heap_alloc_new W0 (.cells #[.int .i64 (m4 : Int), .int .i64 (pn4 : Int), .bool f4, .string t4, .slice a1 n1 c1, .slice a2 n2 c2, .slice a3 n3 c3] 33 (0, 0))
                    have hlbi := hgb.size
                    replace hX := al_keep (o' := (.cells #[.int .i64 (m4 : Int), .int .i64 (pn4 : Int), .bool f4, .string t4, .slice a1 n1 c1, .slice a2 n2 c2, .slice a3 n3 c3] 33 (0, 0))) hX
                    replace hN := al_keep (o' := (.cells #[.int .i64 (m4 : Int), .int .i64 (pn4 : Int), .bool f4, .string t4, .slice a1 n1 c1, .slice a2 n2 c2, .slice a3 n3 c3] 33 (0, 0))) hN
                    replace hrk := World.ownsRow.alloc hrk (.cells #[.int .i64 (m4 : Int), .int .i64 (pn4 : Int), .bool f4, .string t4, .slice a1 n1 c1, .slice a2 n2 c2, .slice a3 n3 c3] 33 (0, 0))
                    replace hrp := World.ownsRow.alloc hrp (.cells #[.int .i64 (m4 : Int), .int .i64 (pn4 : Int), .bool f4, .string t4, .slice a1 n1 c1, .slice a2 n2 c2, .slice a3 n3 c3] 33 (0, 0))
                    replace hri := World.ownsRow.alloc hri (.cells #[.int .i64 (m4 : Int), .int .i64 (pn4 : Int), .bool f4, .string t4, .slice a1 n1 c1, .slice a2 n2 c2, .slice a3 n3 c3] 33 (0, 0))
                    replace hgb := hgb.al (.cells #[.int .i64 (m4 : Int), .int .i64 (pn4 : Int), .bool f4, .string t4, .slice a1 n1 c1, .slice a2 n2 c2, .slice a3 n3 c3] 33 (0, 0))
                    generalize W0.alloc (.cells #[.int .i64 (m4 : Int), .int .i64 (pn4 : Int), .bool f4, .string t4, .slice a1 n1 c1, .slice a2 n2 c2, .slice a3 n3 c3] 33 (0, 0)) = W1 at hbi  hX hN hrk hrp hri hgb ⊢
                    refine wpAnyL_ready (rs := [3, 8]) (by kernel_rfl) (by simp) ?_
                    refine AllReadyL.cons rfl (fun K hK => ?_) ?_
                    focus
                      go_simp
                      refine hK.out _ _ ⟨al_keep hX, fun _ => al_keep hN⟩ ?_
                      clear hK
                      (try simp only [Act.put, List.setIfInBounds_toArray, List.set_cons_zero, List.set_cons_succ])
                      have hbk := heap_alloc_new W1 (.cells #[.string key] 9 (0, 0))
                      have hlbk := hgb.size
                      replace hbi := al_keep (o' := (.cells #[.string key] 9 (0, 0))) hbi
                      replace hX := al_keep (o' := (.cells #[.string key] 9 (0, 0))) hX
                      replace hN := al_keep (o' := (.cells #[.string key] 9 (0, 0))) hN
                      replace hrk := World.ownsRow.alloc hrk (.cells #[.string key] 9 (0, 0))
                      replace hrp := World.ownsRow.alloc hrp (.cells #[.string key] 9 (0, 0))
                      replace hri := World.ownsRow.alloc hri (.cells #[.string key] 9 (0, 0))
                      replace hgb := hgb.al (.cells #[.string key] 9 (0, 0))
                      generalize W1.alloc (.cells #[.string key] 9 (0, 0)) = W2 at hbk hbi hX hN hrk hrp hri hgb ⊢
                      refine wpAnyL_ready (rs := [4, 8]) (by kernel_rfl) (by simp) ?_
                      refine AllReadyL.cons (o := { dst := some 75, op := .call { callee := .builtin .append, args := #[.tmp 72, .tmp 74], argTypes := #[30, 30] }, type := 30, pos := "ref.go:149", after := #[{ on := 1, ground := .data }, { on := 3, ground := .data }], guard := none }) rfl (fun K hK => ?_) ?_
                      focus
                        refine step_app_row rfl _ _ 30 9 1 16 (.string ⟨#[]⟩) infoS18 rfl (by decide) (by decide) Tryz.underlying30 rfl (w.heap.size + 2) (.slice ka m kc) m (cs.map fun c => .string c.key) rfl hrk W1.heap.size 1 [.string key] _ _ rfl hbk rfl rfl hlm1 (Nat.le_trans hbs0 hgb.size) honeK ?_
                        intro vk' W3 hrk' hgk hok hsk
                        replace hok := own_tr hok hgb.size
                        have hnek := hnel _ (List.mem_cons_self ..)
                        replace hX := gr_keep hgk hX (ne_hi hnek hz6)
                        replace hN := gr_keep hgk hN (ne_lo hnek (Nat.lt_succ_of_lt (Nat.lt_succ_self _)))
                        replace hbi := gr_keep hgk hbi (fun e => by have := (hnek _ e).2; omega)
                        replace hrp := gr_row hgk hrp (rows_ne hrp hrk (by decide))
                        replace hri := gr_row hgk hri (rows_ne hri hrk (by decide))
                        replace hrk := hrk'
                        clear hrk'
                        replace hgb := hgb.app hgk (by simp)
                        clear hgk hbk
                        obtain ⟨k0', k1', k2', rfl⟩ := hsk
                        refine hK.out _ _ ⟨hX, fun _ => hN⟩ ?_
                        clear hK
                        (try simp only [Act.put, List.setIfInBounds_toArray, List.set_cons_zero, List.set_cons_succ])
                        refine wpAnyL_take0 (i := 15) (v := ?_) rfl (by decide) (by kernel_rfl) (by kernel_rfl) (by kernel_rfl) (fun _ _ _ h => h) (Or.inl ⟨by rfl, ?_⟩) ⟨hX, fun _ => hN⟩ ?_
                        rotate_left
                        · intro w; go_simp; try with_reducible rfl
                        (try simp only [Act.put, List.setIfInBounds_toArray, List.set_cons_zero, List.set_cons_succ])
                        refine wpAnyL_ready (rs := [8]) (by kernel_rfl) (by simp) ?_
                        refine AllReadyL.cons rfl (fun K hK => ?_) ?_
                        focus
                          go_simp
                          refine hK.out _ _ ⟨al_keep hX, fun _ => al_keep hN⟩ ?_
                          clear hK
                          (try simp only [Act.put, List.setIfInBounds_toArray, List.set_cons_zero, List.set_cons_succ])
                          have hbp := heap_alloc_new W3 (.cells #[.int .i64 (P1 : Int)] 3 (0, 0))
                          have hlbp := hgb.size
                          replace hbi := al_keep (o' := (.cells #[.int .i64 (P1 : Int)] 3 (0, 0))) hbi
                          replace hX := al_keep (o' := (.cells #[.int .i64 (P1 : Int)] 3 (0, 0))) hX
                          replace hN := al_keep (o' := (.cells #[.int .i64 (P1 : Int)] 3 (0, 0))) hN
                          replace hrk := World.ownsRow.alloc hrk (.cells #[.int .i64 (P1 : Int)] 3 (0, 0))
                          replace hrp := World.ownsRow.alloc hrp (.cells #[.int .i64 (P1 : Int)] 3 (0, 0))
                          replace hri := World.ownsRow.alloc hri (.cells #[.int .i64 (P1 : Int)] 3 (0, 0))
                          replace hgb := hgb.al (.cells #[.int .i64 (P1 : Int)] 3 (0, 0))
                          generalize W3.alloc (.cells #[.int .i64 (P1 : Int)] 3 (0, 0)) = W4 at hbp hbi hX hN hrk hrp hri hgb ⊢
                          refine wpAnyL_ready (rs := [9]) (by kernel_rfl) (by simp) ?_
                          refine AllReadyL.cons (o := { dst := some 80, op := .call { callee := .builtin .append, args := #[.tmp 77, .tmp 79], argTypes := #[31, 31] }, type := 31, pos := "ref.go:149", after := #[{ on := 6, ground := .data }, { on := 8, ground := .data }, { on := 4, ground := .chain }], guard := none }) rfl (fun K hK => ?_) ?_
                          focus
                            refine step_app_row rfl _ _ 31 3 1 8 (.int .i64 0) infoI18 rfl (by decide) (by decide) Tryz.underlying31 rfl (w.heap.size + 2) (.slice p0 p1 p2) m (cs.map fun c => .int .i64 (c.pl : Int)) rfl hrp W3.heap.size 1 [.int .i64 (P1 : Int)] _ _ rfl hbp rfl rfl hlm1 (Nat.le_trans hbs0 hgb.size) honeP ?_
                            intro vp' W5 hrp' hgp hop hsp
                            replace hop := own_tr hop hgb.size
                            have hnep := hnel _ (List.mem_cons_of_mem _ (List.mem_cons_self ..))
                            replace hX := gr_keep hgp hX (ne_hi hnep hz6)
                            replace hN := gr_keep hgp hN (ne_lo hnep (Nat.lt_succ_of_lt (Nat.lt_succ_self _)))
                            replace hbi := gr_keep hgp hbi (fun e => by have := (hnep _ e).2; omega)
                            replace hrk := gr_row hgp hrk (rows_ne hrk hrp (by decide))
                            replace hri := gr_row hgp hri (rows_ne hri hrp (by decide))
                            replace hrp := hrp'
                            clear hrp'
                            replace hgb := hgb.app hgp (by simp)
                            clear hgp hbp
                            obtain ⟨p0', p1', p2', rfl⟩ := hsp
                            refine hK.out _ _ ⟨hX, fun _ => hN⟩ ?_
                            clear hK
                            (try simp only [Act.put, List.setIfInBounds_toArray, List.set_cons_zero, List.set_cons_succ])
                            refine wpAnyL_ready (rs := [14]) (by kernel_rfl) (by simp) ?_
                            refine AllReadyL.cons (o := { dst := some 85, op := .call { callee := .builtin .append, args := #[.tmp 82, .tmp 84], argTypes := #[29, 29] }, type := 29, pos := "ref.go:149", after := #[{ on := 11, ground := .data }, { on := 13, ground := .data }, { on := 9, ground := .chain }], guard := none }) rfl (fun K hK => ?_) ?_
                            focus
                              refine step_app_row rfl _ _ 29 33 7 112 _ infoRd rfl (by decide) (by decide) Tryz.underlying29 rfl (w.heap.size + 2) (.slice i0 i1 i2) m (cs.flatMap RKid.u) rfl hri W0.heap.size 1 (rdC m4 pn4 f4 t4 (.slice a1 n1 c1) (.slice a2 n2 c2) (.slice a3 n3 c3)) _ _ rfl hbi rfl rfl hlm1 (Nat.le_trans hbs0 hgb.size) hone ?_
                              intro vi' W6 hri' hgi hoi hsi
                              replace hoi := own_tr hoi hgb.size
                              have hnei := hnel _ (List.mem_cons_of_mem _ (List.mem_cons_of_mem _ (List.mem_cons_self ..)))
                              replace hX := gr_keep hgi hX (ne_hi hnei hz6)
                              replace hN := gr_keep hgi hN (ne_lo hnei (Nat.lt_succ_of_lt (Nat.lt_succ_self _)))
                              replace hrk := gr_row hgi hrk (rows_ne hrk hri (by decide))
                              replace hrp := gr_row hgi hrp (rows_ne hrp hri (by decide))
                              replace hri := hri'
                              clear hri'
                              replace hgb := hgb.app hgi (by simp)
                              clear hgi hbi
                              obtain ⟨i0', i1', i2', rfl⟩ := hsi
                              refine hK.out _ _ ⟨hX, fun _ => hN⟩ ?_
                              clear hK
                              (try simp only [Act.put, List.setIfInBounds_toArray, List.set_cons_zero, List.set_cons_succ])
                            rotate_left 1
                            exact AllReadyL.nil
                          rotate_left 1
                          exact AllReadyL.nil
                        rotate_left 1
                        exact AllReadyL.nil
                      rotate_left 1
                      refine AllReadyL.cons rfl (fun K hK => ?_) ?_
                      focus
                        go_simp
                        refine hK.out _ _ ⟨al_keep hX, fun _ => al_keep hN⟩ ?_
                        clear hK
                        (try simp only [Act.put, List.setIfInBounds_toArray, List.set_cons_zero, List.set_cons_succ])
                        have hbp := heap_alloc_new W2 (.cells #[.int .i64 (P1 : Int)] 3 (0, 0))
                        have hlbp := hgb.size
                        replace hbi := al_keep (o' := (.cells #[.int .i64 (P1 : Int)] 3 (0, 0))) hbi
                        replace hbk := al_keep (o' := (.cells #[.int .i64 (P1 : Int)] 3 (0, 0))) hbk
                        replace hX := al_keep (o' := (.cells #[.int .i64 (P1 : Int)] 3 (0, 0))) hX
                        replace hN := al_keep (o' := (.cells #[.int .i64 (P1 : Int)] 3 (0, 0))) hN
                        replace hrk := World.ownsRow.alloc hrk (.cells #[.int .i64 (P1 : Int)] 3 (0, 0))
                        replace hrp := World.ownsRow.alloc hrp (.cells #[.int .i64 (P1 : Int)] 3 (0, 0))
                        replace hri := World.ownsRow.alloc hri (.cells #[.int .i64 (P1 : Int)] 3 (0, 0))
                        replace hgb := hgb.al (.cells #[.int .i64 (P1 : Int)] 3 (0, 0))
                        generalize W2.alloc (.cells #[.int .i64 (P1 : Int)] 3 (0, 0)) = W3 at hbp hbi hbk hX hN hrk hrp hri hgb ⊢
                        refine wpAnyL_ready (rs := [4]) (by kernel_rfl) (by simp) ?_
                        refine AllReadyL.cons (o := { dst := some 75, op := .call { callee := .builtin .append, args := #[.tmp 72, .tmp 74], argTypes := #[30, 30] }, type := 30, pos := "ref.go:149", after := #[{ on := 1, ground := .data }, { on := 3, ground := .data }], guard := none }) rfl (fun K hK => ?_) ?_
                        focus
                          refine step_app_row rfl _ _ 30 9 1 16 (.string ⟨#[]⟩) infoS18 rfl (by decide) (by decide) Tryz.underlying30 rfl (w.heap.size + 2) (.slice ka m kc) m (cs.map fun c => .string c.key) rfl hrk W1.heap.size 1 [.string key] _ _ rfl hbk rfl rfl hlm1 (Nat.le_trans hbs0 hgb.size) honeK ?_
                          intro vk' W4 hrk' hgk hok hsk
                          replace hok := own_tr hok hgb.size
                          have hnek := hnel _ (List.mem_cons_self ..)
                          replace hX := gr_keep hgk hX (ne_hi hnek hz6)
                          replace hN := gr_keep hgk hN (ne_lo hnek (Nat.lt_succ_of_lt (Nat.lt_succ_self _)))
                          replace hbi := gr_keep hgk hbi (fun e => by have := (hnek _ e).2; omega)
                          replace hbp := gr_keep hgk hbp (fun e => by have := (hnek _ e).2; omega)
                          replace hrp := gr_row hgk hrp (rows_ne hrp hrk (by decide))
                          replace hri := gr_row hgk hri (rows_ne hri hrk (by decide))
                          replace hrk := hrk'
                          clear hrk'
                          replace hgb := hgb.app hgk (by simp)
                          clear hgk hbk
                          obtain ⟨k0', k1', k2', rfl⟩ := hsk
                          refine hK.out _ _ ⟨hX, fun _ => hN⟩ ?_
                          clear hK
                          (try simp only [Act.put, List.setIfInBounds_toArray, List.set_cons_zero, List.set_cons_succ])
                          refine wpAnyL_take0 (i := 15) (v := ?_) rfl (by decide) (by kernel_rfl) (by kernel_rfl) (by kernel_rfl) (fun _ _ _ h => h) (Or.inl ⟨by rfl, ?_⟩) ⟨hX, fun _ => hN⟩ ?_
                          rotate_left
                          · intro w; go_simp; try with_reducible rfl
                          (try simp only [Act.put, List.setIfInBounds_toArray, List.set_cons_zero, List.set_cons_succ])
                          refine wpAnyL_ready (rs := [9]) (by kernel_rfl) (by simp) ?_
                          refine AllReadyL.cons (o := { dst := some 80, op := .call { callee := .builtin .append, args := #[.tmp 77, .tmp 79], argTypes := #[31, 31] }, type := 31, pos := "ref.go:149", after := #[{ on := 6, ground := .data }, { on := 8, ground := .data }, { on := 4, ground := .chain }], guard := none }) rfl (fun K hK => ?_) ?_
                          focus
                            refine step_app_row rfl _ _ 31 3 1 8 (.int .i64 0) infoI18 rfl (by decide) (by decide) Tryz.underlying31 rfl (w.heap.size + 2) (.slice p0 p1 p2) m (cs.map fun c => .int .i64 (c.pl : Int)) rfl hrp W2.heap.size 1 [.int .i64 (P1 : Int)] _ _ rfl hbp rfl rfl hlm1 (Nat.le_trans hbs0 hgb.size) honeP ?_
                            intro vp' W5 hrp' hgp hop hsp
                            replace hop := own_tr hop hgb.size
                            have hnep := hnel _ (List.mem_cons_of_mem _ (List.mem_cons_self ..))
                            replace hX := gr_keep hgp hX (ne_hi hnep hz6)
                            replace hN := gr_keep hgp hN (ne_lo hnep (Nat.lt_succ_of_lt (Nat.lt_succ_self _)))
                            replace hbi := gr_keep hgp hbi (fun e => by have := (hnep _ e).2; omega)
                            replace hrk := gr_row hgp hrk (rows_ne hrk hrp (by decide))
                            replace hri := gr_row hgp hri (rows_ne hri hrp (by decide))
                            replace hrp := hrp'
                            clear hrp'
                            replace hgb := hgb.app hgp (by simp)
                            clear hgp hbp
                            obtain ⟨p0', p1', p2', rfl⟩ := hsp
                            refine hK.out _ _ ⟨hX, fun _ => hN⟩ ?_
                            clear hK
                            (try simp only [Act.put, List.setIfInBounds_toArray, List.set_cons_zero, List.set_cons_succ])
                            refine wpAnyL_ready (rs := [14]) (by kernel_rfl) (by simp) ?_
                            refine AllReadyL.cons (o := { dst := some 85, op := .call { callee := .builtin .append, args := #[.tmp 82, .tmp 84], argTypes := #[29, 29] }, type := 29, pos := "ref.go:149", after := #[{ on := 11, ground := .data }, { on := 13, ground := .data }, { on := 9, ground := .chain }], guard := none }) rfl (fun K hK => ?_) ?_
                            focus
                              refine step_app_row rfl _ _ 29 33 7 112 _ infoRd rfl (by decide) (by decide) Tryz.underlying29 rfl (w.heap.size + 2) (.slice i0 i1 i2) m (cs.flatMap RKid.u) rfl hri W0.heap.size 1 (rdC m4 pn4 f4 t4 (.slice a1 n1 c1) (.slice a2 n2 c2) (.slice a3 n3 c3)) _ _ rfl hbi rfl rfl hlm1 (Nat.le_trans hbs0 hgb.size) hone ?_
                              intro vi' W6 hri' hgi hoi hsi
                              replace hoi := own_tr hoi hgb.size
                              have hnei := hnel _ (List.mem_cons_of_mem _ (List.mem_cons_of_mem _ (List.mem_cons_self ..)))
                              replace hX := gr_keep hgi hX (ne_hi hnei hz6)
                              replace hN := gr_keep hgi hN (ne_lo hnei (Nat.lt_succ_of_lt (Nat.lt_succ_self _)))
                              replace hrk := gr_row hgi hrk (rows_ne hrk hri (by decide))
                              replace hrp := gr_row hgi hrp (rows_ne hrp hri (by decide))
                              replace hri := hri'
                              clear hri'
                              replace hgb := hgb.app hgi (by simp)
                              clear hgi hbi
                              obtain ⟨i0', i1', i2', rfl⟩ := hsi
                              refine hK.out _ _ ⟨hX, fun _ => hN⟩ ?_
                              clear hK
                              (try simp only [Act.put, List.setIfInBounds_toArray, List.set_cons_zero, List.set_cons_succ])
                            rotate_left 1
                            exact AllReadyL.nil
                          rotate_left 1
                          exact AllReadyL.nil
                        rotate_left 1
                        exact AllReadyL.nil
                      rotate_left 1
                      exact AllReadyL.nil
                    rotate_left 2
                    refine AllReadyL.cons rfl (fun K hK => ?_) ?_
                    focus
                      go_simp
                      refine hK.out _ _ ⟨al_keep hX, fun _ => al_keep hN⟩ ?_
                      clear hK
                      (try simp only [Act.put, List.setIfInBounds_toArray, List.set_cons_zero, List.set_cons_succ])
                      have hbp := heap_alloc_new W1 (.cells #[.int .i64 (P1 : Int)] 3 (0, 0))
                      have hlbp := hgb.size
                      replace hbi := al_keep (o' := (.cells #[.int .i64 (P1 : Int)] 3 (0, 0))) hbi
                      replace hX := al_keep (o' := (.cells #[.int .i64 (P1 : Int)] 3 (0, 0))) hX
                      replace hN := al_keep (o' := (.cells #[.int .i64 (P1 : Int)] 3 (0, 0))) hN
                      replace hrk := World.ownsRow.alloc hrk (.cells #[.int .i64 (P1 : Int)] 3 (0, 0))
                      replace hrp := World.ownsRow.alloc hrp (.cells #[.int .i64 (P1 : Int)] 3 (0, 0))
                      replace hri := World.ownsRow.alloc hri (.cells #[.int .i64 (P1 : Int)] 3 (0, 0))
                      replace hgb := hgb.al (.cells #[.int .i64 (P1 : Int)] 3 (0, 0))
                      generalize W1.alloc (.cells #[.int .i64 (P1 : Int)] 3 (0, 0)) = W2 at hbp hbi hX hN hrk hrp hri hgb ⊢
                      refine wpAnyL_ready (rs := [3]) (by kernel_rfl) (by simp) ?_
                      refine AllReadyL.cons rfl (fun K hK => ?_) ?_
                      focus
                        go_simp
                        refine hK.out _ _ ⟨al_keep hX, fun _ => al_keep hN⟩ ?_
                        clear hK
                        (try simp only [Act.put, List.setIfInBounds_toArray, List.set_cons_zero, List.set_cons_succ])
                        have hbk := heap_alloc_new W2 (.cells #[.string key] 9 (0, 0))
                        have hlbk := hgb.size
                        replace hbi := al_keep (o' := (.cells #[.string key] 9 (0, 0))) hbi
                        replace hbp := al_keep (o' := (.cells #[.string key] 9 (0, 0))) hbp
                        replace hX := al_keep (o' := (.cells #[.string key] 9 (0, 0))) hX
                        replace hN := al_keep (o' := (.cells #[.string key] 9 (0, 0))) hN
                        replace hrk := World.ownsRow.alloc hrk (.cells #[.string key] 9 (0, 0))
                        replace hrp := World.ownsRow.alloc hrp (.cells #[.string key] 9 (0, 0))
                        replace hri := World.ownsRow.alloc hri (.cells #[.string key] 9 (0, 0))
                        replace hgb := hgb.al (.cells #[.string key] 9 (0, 0))
                        generalize W2.alloc (.cells #[.string key] 9 (0, 0)) = W3 at hbk hbi hbp hX hN hrk hrp hri hgb ⊢
                        refine wpAnyL_ready (rs := [4]) (by kernel_rfl) (by simp) ?_
                        refine AllReadyL.cons (o := { dst := some 75, op := .call { callee := .builtin .append, args := #[.tmp 72, .tmp 74], argTypes := #[30, 30] }, type := 30, pos := "ref.go:149", after := #[{ on := 1, ground := .data }, { on := 3, ground := .data }], guard := none }) rfl (fun K hK => ?_) ?_
                        focus
                          refine step_app_row rfl _ _ 30 9 1 16 (.string ⟨#[]⟩) infoS18 rfl (by decide) (by decide) Tryz.underlying30 rfl (w.heap.size + 2) (.slice ka m kc) m (cs.map fun c => .string c.key) rfl hrk W2.heap.size 1 [.string key] _ _ rfl hbk rfl rfl hlm1 (Nat.le_trans hbs0 hgb.size) honeK ?_
                          intro vk' W4 hrk' hgk hok hsk
                          replace hok := own_tr hok hgb.size
                          have hnek := hnel _ (List.mem_cons_self ..)
                          replace hX := gr_keep hgk hX (ne_hi hnek hz6)
                          replace hN := gr_keep hgk hN (ne_lo hnek (Nat.lt_succ_of_lt (Nat.lt_succ_self _)))
                          replace hbi := gr_keep hgk hbi (fun e => by have := (hnek _ e).2; omega)
                          replace hbp := gr_keep hgk hbp (fun e => by have := (hnek _ e).2; omega)
                          replace hrp := gr_row hgk hrp (rows_ne hrp hrk (by decide))
                          replace hri := gr_row hgk hri (rows_ne hri hrk (by decide))
                          replace hrk := hrk'
                          clear hrk'
                          replace hgb := hgb.app hgk (by simp)
                          clear hgk hbk
                          obtain ⟨k0', k1', k2', rfl⟩ := hsk
                          refine hK.out _ _ ⟨hX, fun _ => hN⟩ ?_
                          clear hK
                          (try simp only [Act.put, List.setIfInBounds_toArray, List.set_cons_zero, List.set_cons_succ])
                          refine wpAnyL_take0 (i := 15) (v := ?_) rfl (by decide) (by kernel_rfl) (by kernel_rfl) (by kernel_rfl) (fun _ _ _ h => h) (Or.inl ⟨by rfl, ?_⟩) ⟨hX, fun _ => hN⟩ ?_
                          rotate_left
                          · intro w; go_simp; try with_reducible rfl
                          (try simp only [Act.put, List.setIfInBounds_toArray, List.set_cons_zero, List.set_cons_succ])
                          refine wpAnyL_ready (rs := [9]) (by kernel_rfl) (by simp) ?_
                          refine AllReadyL.cons (o := { dst := some 80, op := .call { callee := .builtin .append, args := #[.tmp 77, .tmp 79], argTypes := #[31, 31] }, type := 31, pos := "ref.go:149", after := #[{ on := 6, ground := .data }, { on := 8, ground := .data }, { on := 4, ground := .chain }], guard := none }) rfl (fun K hK => ?_) ?_
                          focus
                            refine step_app_row rfl _ _ 31 3 1 8 (.int .i64 0) infoI18 rfl (by decide) (by decide) Tryz.underlying31 rfl (w.heap.size + 2) (.slice p0 p1 p2) m (cs.map fun c => .int .i64 (c.pl : Int)) rfl hrp W1.heap.size 1 [.int .i64 (P1 : Int)] _ _ rfl hbp rfl rfl hlm1 (Nat.le_trans hbs0 hgb.size) honeP ?_
                            intro vp' W5 hrp' hgp hop hsp
                            replace hop := own_tr hop hgb.size
                            have hnep := hnel _ (List.mem_cons_of_mem _ (List.mem_cons_self ..))
                            replace hX := gr_keep hgp hX (ne_hi hnep hz6)
                            replace hN := gr_keep hgp hN (ne_lo hnep (Nat.lt_succ_of_lt (Nat.lt_succ_self _)))
                            replace hbi := gr_keep hgp hbi (fun e => by have := (hnep _ e).2; omega)
                            replace hrk := gr_row hgp hrk (rows_ne hrk hrp (by decide))
                            replace hri := gr_row hgp hri (rows_ne hri hrp (by decide))
                            replace hrp := hrp'
                            clear hrp'
                            replace hgb := hgb.app hgp (by simp)
                            clear hgp hbp
                            obtain ⟨p0', p1', p2', rfl⟩ := hsp
                            refine hK.out _ _ ⟨hX, fun _ => hN⟩ ?_
                            clear hK
                            (try simp only [Act.put, List.setIfInBounds_toArray, List.set_cons_zero, List.set_cons_succ])
                            refine wpAnyL_ready (rs := [14]) (by kernel_rfl) (by simp) ?_
                            refine AllReadyL.cons (o := { dst := some 85, op := .call { callee := .builtin .append, args := #[.tmp 82, .tmp 84], argTypes := #[29, 29] }, type := 29, pos := "ref.go:149", after := #[{ on := 11, ground := .data }, { on := 13, ground := .data }, { on := 9, ground := .chain }], guard := none }) rfl (fun K hK => ?_) ?_
                            focus
                              refine step_app_row rfl _ _ 29 33 7 112 _ infoRd rfl (by decide) (by decide) Tryz.underlying29 rfl (w.heap.size + 2) (.slice i0 i1 i2) m (cs.flatMap RKid.u) rfl hri W0.heap.size 1 (rdC m4 pn4 f4 t4 (.slice a1 n1 c1) (.slice a2 n2 c2) (.slice a3 n3 c3)) _ _ rfl hbi rfl rfl hlm1 (Nat.le_trans hbs0 hgb.size) hone ?_
                              intro vi' W6 hri' hgi hoi hsi
                              replace hoi := own_tr hoi hgb.size
                              have hnei := hnel _ (List.mem_cons_of_mem _ (List.mem_cons_of_mem _ (List.mem_cons_self ..)))
                              replace hX := gr_keep hgi hX (ne_hi hnei hz6)
                              replace hN := gr_keep hgi hN (ne_lo hnei (Nat.lt_succ_of_lt (Nat.lt_succ_self _)))
                              replace hrk := gr_row hgi hrk (rows_ne hrk hri (by decide))
                              replace hrp := gr_row hgi hrp (rows_ne hrp hri (by decide))
                              replace hri := hri'
                              clear hri'
                              replace hgb := hgb.app hgi (by simp)
                              clear hgi hbi
                              obtain ⟨i0', i1', i2', rfl⟩ := hsi
                              refine hK.out _ _ ⟨hX, fun _ => hN⟩ ?_
                              clear hK
                              (try simp only [Act.put, List.setIfInBounds_toArray, List.set_cons_zero, List.set_cons_succ])
                            rotate_left 1
                            exact AllReadyL.nil
                          rotate_left 1
                          exact AllReadyL.nil
                        rotate_left 1
                        exact AllReadyL.nil
                      rotate_left 1
                      exact AllReadyL.nil
                    rotate_left 1
                    exact AllReadyL.nil
                  rotate_left 3
                  exact AllReadyL.nil
                  all_goals
                    refine wpAnyL_ready (rs := [16]) (by kernel_rfl) (by simp) ?_
                    refine AllReadyL.cons rfl (fun K hK => ?_) AllReadyL.nil
                    have zc := cellB hN 5 rfl
                    have zf := freeB hN 5
                    go_simp
                    clear zc zf
                    replace hX := other (i := 5) (u := (.slice k0' k1' k2')) hX hzX
                    replace hN := set1 (i := 5) hN (.slice k0' k1' k2') rfl
                    replace hgb := hgb.app (grown_set _ w.heap.size 5 (.slice k0' k1' k2')) (by simp)
                    replace hrk := row_grown hrk (grown_set _ w.heap.size 5 (.slice k0' k1' k2')) hlt2
                    replace hrp := row_grown hrp (grown_set _ w.heap.size 5 (.slice k0' k1' k2')) hlt2
                    replace hri := row_grown hri (grown_set _ w.heap.size 5 (.slice k0' k1' k2')) hlt2
                    refine hK.out _ _ ⟨hX, tf (by kernel_rfl)⟩ ?_
                    clear hK
                    (try simp only [Act.put, List.setIfInBounds_toArray, List.set_cons_zero, List.set_cons_succ])
                    refine wpAnyL_take0 (i := 17) (v := ?_) rfl (by decide) (by kernel_rfl) (by kernel_rfl) (by kernel_rfl) (fun _ _ _ h => h) (Or.inl ⟨by rfl, ?_⟩) ⟨hX, tf (by kernel_rfl)⟩ ?_
                    rotate_left
                    · intro w; go_simp; try with_reducible rfl
                    (try simp only [Act.put, List.setIfInBounds_toArray, List.set_cons_zero, List.set_cons_succ])
                    refine wpAnyL_ready (rs := [18]) (by kernel_rfl) (by simp) ?_
                    refine AllReadyL.cons rfl (fun K hK => ?_) AllReadyL.nil
                    have zc := cellB hN 6 rfl
                    have zf := freeB hN 6
                    go_simp
                    clear zc zf
                    replace hX := other (i := 6) (u := (.slice p0' p1' p2')) hX hzX
                    replace hN := set1 (i := 6) hN (.slice p0' p1' p2') rfl
                    replace hgb := hgb.app (grown_set _ w.heap.size 6 (.slice p0' p1' p2')) (by simp)
                    replace hrk := row_grown hrk (grown_set _ w.heap.size 6 (.slice p0' p1' p2')) hlt2
                    replace hrp := row_grown hrp (grown_set _ w.heap.size 6 (.slice p0' p1' p2')) hlt2
                    replace hri := row_grown hri (grown_set _ w.heap.size 6 (.slice p0' p1' p2')) hlt2
                    refine hK.out _ _ ⟨hX, tf (by kernel_rfl)⟩ ?_
                    clear hK
                    (try simp only [Act.put, List.setIfInBounds_toArray, List.set_cons_zero, List.set_cons_succ])
                    refine wpAnyL_take0 (i := 19) (v := ?_) rfl (by decide) (by kernel_rfl) (by kernel_rfl) (by kernel_rfl) (fun _ _ _ h => h) (Or.inl ⟨by rfl, ?_⟩) ⟨hX, tf (by kernel_rfl)⟩ ?_
                    rotate_left
                    · intro w; go_simp; try with_reducible rfl
                    (try simp only [Act.put, List.setIfInBounds_toArray, List.set_cons_zero, List.set_cons_succ])
                    refine wpAnyL_ready (rs := [20]) (by kernel_rfl) (by simp) ?_
                    refine AllReadyL.cons rfl (fun K hK => ?_) AllReadyL.nil
                    have zc := cellB hN 4 rfl
                    have zf := freeB hN 4
                    go_simp
                    clear zc zf
                    replace hX := other (i := 4) (u := (.slice i0' i1' i2')) hX hzX
                    replace hN := set1 (i := 4) hN (.slice i0' i1' i2') rfl
                    replace hgb := hgb.app (grown_set _ w.heap.size 4 (.slice i0' i1' i2')) (by simp)
                    replace hrk := row_grown hrk (grown_set _ w.heap.size 4 (.slice i0' i1' i2')) hlt2
                    replace hrp := row_grown hrp (grown_set _ w.heap.size 4 (.slice i0' i1' i2')) hlt2
                    replace hri := row_grown hri (grown_set _ w.heap.size 4 (.slice i0' i1' i2')) hlt2
                    refine hK.out _ _ ⟨hX, tf (by kernel_rfl)⟩ ?_
                    clear hK
                    (try simp only [Act.put, List.setIfInBounds_toArray, List.set_cons_zero, List.set_cons_succ])
                    refine wpAnyL_done (by kernel_rfl) ?_ _
                    go_wp2_with fail
                    go_meet
                    exact ⟨_, _, _, Lib.hid hN, Lib.hid ⟨hri, hrk, hrp⟩, Lib.hid hgb, Lib.hid ⟨hoi, hok, hop⟩⟩
                case rest =>
                  obtain ⟨vi', vk', vp', hn7, hA7, hgb, hown⟩ := hcut
                  have hSge : ∀ j, some j ∈ [some w.heap.size, (Value.slice ka m kc).ownBlock, vp.ownBlock, vi.ownBlock] → j = w.heap.size ∨ w.heap.size + 2 ≤ j := by
                    rw [hm.out]
                    intro j hj
                    simp only [List.mem_cons, List.not_mem_nil, or_false] at hj
                    rcases hj with h | h | h | h
                    · cases h; exact Or.inl rfl
                    · exact Or.inr (hrow6.out.k.lt j h.symm).1
                    · exact Or.inr (hrow6.out.p.lt j h.symm).1
                    · exact Or.inr (hrow6.out.i.lt j h.symm).1
                  have hx7 := hgb.out.keep hx6.out (fun j hj => by have := hSge j hj; omega)
                  have hr7 := hgb.out.keep hr6.out (fun j hj => by have := hSge j hj; omega)
                  have hr7 : RdB s (.slice (some ⟨tg, 0, none⟩) ts.length tcap) q4 pl4 k4 b wc := hr7
                  have hgE := hgb.out.grown hgD.out (fun j hj => by have := hSge j hj; omega)
                  have hWE := hW.out.step hgE hr7 hq4
                  have hbrx := ltB hr7
                  have x4 := hr7.c4
                  rcases hst4.out with ⟨rfl, rfl, hq5, x, hN, hgo6⟩ | ⟨hk0, hre⟩
                  · have hcs : ∃ cs' : List RKid, cs'.length = cs.length + 1 ∧ R3 (w.heap.size + 2) wc vi' vk' vp' cs' ∧ RKids (w.heap.size + 2) wc [vi'.ownBlock, vk'.ownBlock, vp'.ownBlock] cs' ∧ comb (cs'.map RKid.mem) (match rest s ts 7 q4 with
                        | .ok true q' => .ok [] q'
                        | .ok false q' => pM s ts f1 deep (cs'.map RKid.key) q'
                        | .err k pl => .err k pl
                        | .out => .out) = r := by
                      have hk1 := hkids4.out.add (c := ⟨key, P1, w3.heap.size, w4.heap.size, _, x⟩) rfl rfl hN hz5 hz6 hown3.out
                      have hk2 := (hk1.below hB6.out).gb (by rw [← hm.out]; exact hgb.out) (by omega) hown.out.1 (by rw [← hm.out]; exact hown.out.2.1) hown.out.2.2
                      refine ⟨_, by rw [List.length_append]; rfl, A3.r3 (c := ⟨key, P1, w3.heap.size, w4.heap.size, rdC m4 pn4 f4 t4 (.slice a1 n1 c1) (.slice a2 n2 c2) (.slice a3 n3 c3), x⟩) hA7.out hm.out, hk2, ?_⟩
                      rw [← hgo6, List.map_append, List.map_append]
                      show comb (cs.map RKid.mem ++ [(key, P1, x)]) (match rest s ts 7 q4 with | .ok true q' => .ok [] q' | .ok false q' => pM s ts f1 deep (cs.map RKid.key ++ [key]) q' | .err k pl => .err k pl | .out => .out) = _
                      cases rest s ts 7 q4 with
                      | out => rfl
                      | err k pl => rfl
                      | ok t q' =>
                        cases t with
                        | true => show PR.ok (_ ++ [] : List _) q' = _; rw [List.append_nil]; rfl
                        | false =>
                          show comb _ (pM s ts f1 deep (cs.map RKid.key ++ [key]) q') = comb _ (match pM s ts f1 deep (cs.map RKid.key ++ [key]) q' with | .ok xs q'' => .ok ((key, P1, x) :: xs) q'' | .err k pl => .err k pl | .out => .out)
                          cases pM s ts f1 deep (cs.map RKid.key ++ [key]) q' with
                          | out => rfl
                          | err k pl => rfl
                          | ok xs q'' => show PR.ok _ _ = PR.ok _ _; rw [List.append_assoc]; rfl
                    obtain ⟨cs', hc2, hc3, hc4, hgo1⟩ := hcs
                    obtain ⟨⟨i1, i2, i3, rfl⟩, ⟨k1, k2', k3', rfl⟩, ⟨p1, p2, p3, rfl⟩⟩ := hA7.out.sl
                    unfold rest at hgo1
                    have N := Lib.hid (fun w hW => peek_calls (base := base) (v := (.slice (some ⟨tg, 0, none⟩) ts.length tcap)) (ts := ts) s q4 pl4 0 b w hW)
                    clear hgo6 hN hst4 hA7 hgb hown hSge hgD hr6 hx6 hn6 hcell6 hB6 hrow6 hkids4 hown3 hm
                    by_cases k7 : kindT ts q4 = 7
                    · rw [if_pos k7] at hgo1
                      rw [k7] at N
                      have hqb : (q4 : Int) + 1 ≤ 3518437208884 := by have := hW.out.hl; omega
                      replace hgo1 := Lib.hid hgo1
                      replace k7 := Lib.hid k7
                      replace hWE := Lib.hid hWE
                      go_wp2_with fail
                      refine (N.out _ hWE.out).mono ?_
                      rintro e w8 ⟨rfl, hb⟩
                      have hn8 := box_next hn7.out hb
                      have hx8 := box_next hx7 hb
                      have hr8 := hr7.next hb
                      have hgF := grown_belowR hgE hb
                      have hc5 := Lib.hid (hc3.below hb)
                      have hc6 := Lib.hid (hc4.below hb)
                      clear hb hn7 hx7 hr7 hgE hc3 hc4 x4
                      have x2 := hr8.c2
                      have f2 := freeB hr8 2
                      have hn08 := ltB hn8
                      have hx08 := ltB hx8
                      have hbr8 := ltB hr8
                      have zc0 := cellB hn8 0 rfl
                      have zc1 := cellB hn8 1 rfl
                      have zc2 := cellB hn8 2 rfl
                      have zc3 := cellB hn8 3 rfl
                      have zc4 := cellB hn8 4 rfl
                      have zc5 := cellB hn8 5 rfl
                      have zc6 := cellB hn8 6 rfl
                      have zf0 := freeB hn8 0
                      have zf1 := freeB hn8 1
                      have zf2 := freeB hn8 2
                      have zf3 := freeB hn8 3
                      have zf4 := freeB hn8 4
                      have zf5 := freeB hn8 5
                      have zf6 := freeB hn8 6
                      have yc0 := cellB hx8 0 rfl
                      have yc1 := cellB hx8 1 rfl
                      have yc2 := cellB hx8 2 rfl
                      have yc3 := cellB hx8 3 rfl
                      have yc4 := cellB hx8 4 rfl
                      have yc5 := cellB hx8 5 rfl
                      have yc6 := cellB hx8 6 rfl
                      have yf0 := freeB hx8 0
                      have yf1 := freeB hx8 1
                      have yf2 := freeB hx8 2
                      have yf3 := freeB hx8 3
                      have yf4 := freeB hx8 4
                      have yf5 := freeB hx8 5
                      have yf6 := freeB hx8 6
                      replace hr8 := Lib.hid hr8
                      replace hgF := Lib.hid hgF
                      go_wp2_with fail
                      have h1 := other (i := 2) (u := .int .i64 ((q4 : Int) + 1)) hx8 hz2.symm
                      have h3 := RdB.set2 (q := q4 + 1) hr8.out
                      have h4 := grown_trans hgF.out (grown_set _ b 2 (.int .i64 ((q4 : Int) + 1)))
                      obtain ⟨e1, e2, e3⟩ := rd_end h1 h4 h3 hz2 (Nat.le_succ _) (.int .i64 5) (.int .i64 (P : Int)) (.bool false) (.string ⟨#[]⟩) (.slice i1 i2 i3) (.slice k1 k2' k3') (.slice p1 p2 p3)
                      refine bodyPost_ret (results_cell_row rfl _ _ (w.heap.size + 1) 33 _ (0, 0) _ rfl e1 Tryz.underlying33 rfl info7) rfl ⟨e2, _, _, _, rfl, ?_⟩
                      rw [← hgo1.out]
                      exact ⟨cs', ((hc5.out.grown (grown_set _ b 2 _) (by omega)).grown (set7_grown _ _ _ _ _ _ _ _ _) (by omega)).base (by omega), ((hc6.out.other (grown_set _ b 2 _) (by omega)).other (set7_grown _ _ _ _ _ _ _ _ _) (by omega)).base (by omega), by rw [List.append_nil], e3⟩
                    · rw [if_neg k7] at hgo1
                      have hne5 : ((kindT ts q4 : Int) == 7) = false := by simp; omega
                      have hne6 : ¬ (kindT ts q4 : Int) = 7 := by omega
                      obtain ⟨K2, hK2⟩ : ∃ K2, K2 = kindT ts q4 := ⟨_, rfl⟩
                      rw [← hK2] at hne5 hne6 N
                      replace hK2 := Lib.hid hK2
                      go_wp2_with fail
                      refine (N.out _ hWE).mono ?_
                      rintro e w8 ⟨rfl, hb⟩
                      have hn8 := Lib.hid (box_next hn7.out hb)
                      have hx8 := Lib.hid (box_next hx7 hb)
                      have hW8 := Lib.hid (hWE.next hb)
                      have hgF := Lib.hid (grown_belowR hgE hb)
                      have hc5 := Lib.hid (hc3.below hb)
                      have hc6 := Lib.hid (hc4.below hb)
                      clear hb hn7 hx7 hr7 hgE hc3 hc4 hWE x4
                      by_cases k11 : kindT ts q4 = 11
                      · rw [if_pos k11] at hgo1
                        have hqt := kindT_lt (ts := ts) (p := q4) (by omega)
                        replace hgo1 := Lib.hid hgo1
                        replace k11 := Lib.hid k11
                        go_wp2_with fail
                        refine (want_ok s q4 pl4 b 11 _ hW8.out k11.out (by decide)).mono ?_
                        rintro e w9 ⟨rfl, hW9, hg8⟩
                        have hn9 := Lib.hid ((hg8.block _ (ltB hn8.out) (by intro e; cases e; exact hz1 rfl)).trans hn8.out)
                        have hx9 := Lib.hid ((hg8.block _ (ltB hx8.out) (by intro e; cases e; exact hz2 rfl)).trans hx8.out)
                        have hrd9 := Lib.hid hW9.rd
                        have hg9 := Lib.hid (grown_trans hgF.out hg8)
                        have hc7 := Lib.hid (hc5.out.grown hg8 (by omega))
                        have hc8 := Lib.hid (hc6.out.other hg8 (by omega))
                        clear hW9 hg8 hn8 hx8 hW8 hgF hc5 hc6
                        go_wp2_with fail
                        go_roundg f1
                        case measure => omega
                        case rel => exact ⟨q4 + 1, pl4, 0, _, _, _, hn9, hx9, hrd9, hg9, Lib.hid ⟨by omega, by have := hq.out.2; omega⟩, Or.inl ⟨rfl, Lib.hid ⟨rfl, cs', hc7.out, hc8.out, by omega, hgo1.out⟩⟩⟩
                      · rw [if_neg k11] at hgo1
                        replace hgo1 := Lib.hid hgo1
                        replace k11 := Lib.hid k11
                        go_wp2_with fail
                        refine (want_bad s q4 pl4 b 11 _ hW8.out k11.out).mono ?_
                        rintro e w9 ⟨rfl, hW9, hg8⟩
                        have hn9 := Lib.hid ((hg8.block _ (ltB hn8.out) (by intro e; cases e; exact hz1 rfl)).trans hn8.out)
                        have hx9 := Lib.hid ((hg8.block _ (ltB hx8.out) (by intro e; cases e; exact hz2 rfl)).trans hx8.out)
                        have hrd9 := Lib.hid hW9.rd
                        have hg9 := Lib.hid (grown_trans hgF.out hg8)
                        clear hW9 hg8 hn8 hx8 hW8 hgF hc5 hc6
                        go_wp2_with fail
                        go_roundg f1
                        case measure => omega
                        case rel => exact ⟨q4, placeT s ts q4, 2, _, _, _, hn9, hx9, hrd9, hg9, Lib.hid ⟨hq4, by have := hq.out.2; omega⟩, Or.inr ⟨by decide, Lib.hid ⟨⟨⟨_, _, _, rfl⟩, ⟨_, _, _, rfl⟩, ⟨_, _, _, rfl⟩⟩, by rw [← hgo1.out]; rfl⟩⟩⟩
                  · have hk3 : ¬ (k4 : Int) = 0 := by omega
                    have hk4 : ((k4 : Int) == 0) = false := by simpa using hk3
                    have hsl := hA7.out.sl
                    clear hst4 hA7 hgb hown hSge hgD hr6 hx6 hn6 hcell6 hB6 hrow6 hkids4 hown3 hm
                    obtain ⟨⟨i1, i2, i3, rfl⟩, ⟨k1, k2', k3', rfl⟩, ⟨p1, p2, p3, rfl⟩⟩ := hsl
                    replace hre := Lib.hid hre
                    replace hWE := Lib.hid hWE
                    replace hr7 := Lib.hid hr7
                    replace hgE := Lib.hid hgE
                    replace hx7 := Lib.hid hx7
                    go_wp2_with fail
                    refine (want_old s q4 pl4 k4 b 11 _ hWE.out hk0).mono ?_
                    rintro e w8 ⟨rfl, hb⟩
                    have hn8 := Lib.hid (box_next hn7.out hb)
                    have hx8 := Lib.hid (box_next hx7.out hb)
                    have hr8 := Lib.hid (hr7.out.next hb)
                    have hgF := Lib.hid (grown_belowR hgE.out hb)
                    clear hb hn7 hx7 hr7 hgE hWE x4
                    go_wp2_with fail
                    go_roundg f1
                    case measure => omega
                    case rel => exact ⟨q4, pl4, k4, _, _, _, hn8, hx8, hr8, hgF, Lib.hid ⟨hq4, by have := hq.out.2; omega⟩, Or.inr ⟨hk0, Lib.hid ⟨⟨⟨_, _, _, rfl⟩, ⟨_, _, _, rfl⟩, ⟨_, _, _, rfl⟩⟩, hre.out⟩⟩⟩
          · have hgo5 := hgo.out
            rw [if_neg k5] at hgo5
            replace hgo5 := Lib.hid hgo5
            clear hgo
            go_wp2_with fail
            refine (want_bad s q plx b 5 _ hpo1.out k5).mono ?_
            rintro e w2 ⟨rfl, hW2, hg8⟩
            have hn2 := ((hg8.block _ (ltB hn1.out) (by intro e; cases e; exact hz1 rfl)).trans hn1.out)
            have hx2 := ((hg8.block _ (ltB hx1.out) (by intro e; cases e; exact hz2 rfl)).trans hx1.out)
            have hg2 := Lib.hid (grown_trans hg1.out hg8)
            obtain ⟨⟨a1, n1, c1, rfl⟩, ⟨a2, n2, c2, rfl⟩, ⟨a3, n3, c3, rfl⟩⟩ := hrow1.out.sl
            have x4 := hW2.rd.c4
            have hbr2 := hW2.lt
            have hrd2 := Lib.hid hW2.rd
            clear hW2 hg8 hn1 hx1 hpo1 hg1 hrow1 hkids1
            have hn02 := ltB hn2
            have hx02 := ltB hx2
            have zc0 := cellB hn2 0 rfl
            have zc1 := cellB hn2 1 rfl
            have zc2 := cellB hn2 2 rfl
            have zc3 := cellB hn2 3 rfl
            have zc4 := cellB hn2 4 rfl
            have zc5 := cellB hn2 5 rfl
            have zc6 := cellB hn2 6 rfl
            have zf0 := freeB hn2 0
            have zf1 := freeB hn2 1
            have zf2 := freeB hn2 2
            have zf3 := freeB hn2 3
            have zf4 := freeB hn2 4
            have zf5 := freeB hn2 5
            have zf6 := freeB hn2 6
            have yc0 := cellB hx2 0 rfl
            have yc1 := cellB hx2 1 rfl
            have yc2 := cellB hx2 2 rfl
            have yc3 := cellB hx2 3 rfl
            have yc4 := cellB hx2 4 rfl
            have yc5 := cellB hx2 5 rfl
            have yc6 := cellB hx2 6 rfl
            have yf0 := freeB hx2 0
            have yf1 := freeB hx2 1
            have yf2 := freeB hx2 2
            have yf3 := freeB hx2 3
            have yf4 := freeB hx2 4
            have yf5 := freeB hx2 5
            have yf6 := freeB hx2 6
            go_wp2_with fail
            obtain ⟨e1, e2, e3⟩ := rd_end hx2 hg2.out hrd2.out hz2 (Nat.le_succ _) (.int .i64 5) (.int .i64 (P : Int)) (.bool false) (.string ⟨#[]⟩) (.slice a1 n1 c1) (.slice a2 n2 c2) (.slice a3 n3 c3)
            refine bodyPost_ret (results_cell_row rfl _ _ (w.heap.size + 1) 33 _ (0, 0) _ rfl e1 Tryz.underlying33 rfl info7) rfl ⟨e2, _, _, _, rfl, ?_⟩
            rw [← hgo5.out]
            exact ⟨⟨⟨_, _, _, rfl⟩, ⟨_, _, _, rfl⟩, ⟨_, _, _, rfl⟩⟩, q, hq.out.1, by rw [hP1.out]; exact e3⟩
      · have hk1 : ((k : Int) == 0) = false := by simp; omega
        have hk2 : ¬ (k : Int) = 0 := by omega
        obtain ⟨⟨⟨a1, n1, c1, rfl⟩, ⟨a2, n2, c2, rfl⟩, ⟨a3, n3, c3, rfl⟩⟩, hre⟩ := hm.out
        replace hre := Lib.hid hre
        clear hm
        have zc0 := cellB hn.out 0 rfl
        have zc1 := cellB hn.out 1 rfl
        have zc2 := cellB hn.out 2 rfl
        have zc3 := cellB hn.out 3 rfl
        have zc4 := cellB hn.out 4 rfl
        have zc5 := cellB hn.out 5 rfl
        have zc6 := cellB hn.out 6 rfl
        have zf0 := freeB hn.out 0
        have zf1 := freeB hn.out 1
        have zf2 := freeB hn.out 2
        have zf3 := freeB hn.out 3
        have zf4 := freeB hn.out 4
        have zf5 := freeB hn.out 5
        have zf6 := freeB hn.out 6
        have yc0 := cellB hx.out 0 rfl
        have yc1 := cellB hx.out 1 rfl
        have yc2 := cellB hx.out 2 rfl
        have yc3 := cellB hx.out 3 rfl
        have yc4 := cellB hx.out 4 rfl
        have yc5 := cellB hx.out 5 rfl
        have yc6 := cellB hx.out 6 rfl
        have yf0 := freeB hx.out 0
        have yf1 := freeB hx.out 1
        have yf2 := freeB hx.out 2
        have yf3 := freeB hx.out 3
        have yf4 := freeB hx.out 4
        have yf5 := freeB hx.out 5
        have yf6 := freeB hx.out 6
        go_wp2_with fail
        obtain ⟨e1, e2, e3⟩ := rd_end hx.out hg.out hrd.out hz2 (Nat.le_succ _) (.int .i64 5) (.int .i64 (P : Int)) (.bool false) (.string ⟨#[]⟩) (.slice a1 n1 c1) (.slice a2 n2 c2) (.slice a3 n3 c3)
        refine bodyPost_ret (results_cell_row rfl _ _ (w.heap.size + 1) 33 _ (0, 0) _ rfl e1 Tryz.underlying33 rfl info7) rfl ⟨e2, _, _, _, rfl, ?_⟩
        rw [hre.out]
        exact ⟨⟨⟨_, _, _, rfl⟩, ⟨_, _, _, rfl⟩, ⟨_, _, _, rfl⟩⟩, q, hq.out.1, e3⟩

end Go.Proofs.YtibopkodoidjoaaGreatDoor
