/- ScanBlanks: the walk. -/
import Derived.Test.YtnldhgkmbighkaaDoorGlued
namespace Go.Proofs.YtnldhgkmbighkaaDoor
open Go Go.RowKit

theorem OwnB.form {w : World} {base : Nat} {v : Value} {l : List UInt8} (h : OwnB w base v l) : ∃ a cap, v = .slice a l.length cap := by
  obtain ⟨h1, ⟨rfl, h3⟩ | ⟨g, cap, cur, rfl, hbg, hg, hn, hc, hz, ht⟩⟩ := h
  · exact ⟨none, 0, by rw [h3]⟩
  · exact ⟨some ⟨g, 0, none⟩, cap, rfl⟩
theorem OwnT.form2 {w : World} {base : Nat} {v : Value} {l : List Tk} (h : OwnT w base v l) : ∃ a cap, v = .slice a l.length cap := by
  obtain ⟨h1, ⟨rfl, h3⟩ | ⟨g, cap, cur, rfl, hbg, hg, hn, hc, hz, ht⟩⟩ := h
  · exact ⟨none, 0, by rw [h3]⟩
  · exact ⟨some ⟨g, 0, none⟩, cap, rfl⟩
theorem tkNe : 28 ≠ 5 := by decide
/-- What holds tokens is kept where bytes are written. -/
theorem keep_tk {W w2 : World} {base g : Nat} {v : Value} {l : List UInt8} {cs : Array Value} {fr : Nat × Nat} (ho : OwnB W base v l) (hg : W.grownBy w2 v.ownBlock) (h : W.heap[g]? = some (.cells cs 28 fr)) : w2.heap[g]? = some (.cells cs 28 fr) := by
  rw [hg.block g (ltB h) ?_]
  · exact h
  · intro he
    obtain ⟨h1, ⟨rfl, h3⟩ | ⟨g', cap, cur, rfl, hbg, hg', hn, hc, hz, ht⟩⟩ := ho
    · cases he
    · cases he
      rw [h] at hg'
      simp only [Option.some.injEq, Obj.cells.injEq] at hg'
      exact tkNe hg'.2.1
theorem keepB_T {W w2 : World} {base b2 : Nat} {v v2 : Value} {l : List UInt8} {ts : List Tk} (ho : OwnB W base v l) (hg : W.grownBy w2 v.ownBlock) (h : OwnT W b2 v2 ts) : OwnT w2 b2 v2 ts := by
  obtain ⟨h1, h2 | ⟨g, cap, cur, h2, hbg, hg2, hn, hc, hz, ht⟩⟩ := h
  · exact ⟨h1, Or.inl h2⟩
  · exact ⟨h1, Or.inr ⟨g, cap, cur, h2, hbg, keep_tk ho hg hg2, hn, hc, hz, ht⟩⟩
theorem keepT_B {W w2 : World} {base b2 : Nat} {v v2 : Value} {l : List UInt8} {ts : List Tk} (ho : OwnT W base v ts) (hg : W.grownBy w2 v.ownBlock) (h : OwnB W b2 v2 l) : OwnB w2 b2 v2 l := by
  obtain ⟨h1, h2 | ⟨g, cap, cur, h2, hbg, hg2, hn, hc, hz, ht⟩⟩ := h
  · exact ⟨h1, Or.inl h2⟩
  · refine ⟨h1, Or.inr ⟨g, cap, cur, h2, hbg, ?_, hn, hc, hz, ht⟩⟩
    rw [hg.block g (ltB hg2) ?_]
    · exact hg2
    · intro he
      obtain ⟨k1, ⟨rfl, k3⟩ | ⟨g', cap', cur', rfl, kbg, kg', kn, kc, kz, kt⟩⟩ := ho
      · cases he
      · cases he
        rw [hg2] at kg'
        simp only [Option.some.injEq, Obj.cells.injEq] at kg'
        exact tkNe kg'.2.1.symm
theorem chain_len {s : ByteArray} : ∀ (ts : List Tk) (p : Nat), brkAt s p = s.size → p ≤ s.size → Chain s p ts → ts.length ≤ s.size - p
  | [], _, _, _, _ => Nat.zero_le _
  | T :: r, p, hb, hp, ⟨h1, h2, h3, h4, h5⟩ => by
    have hbb : brkAt s T.fr = s.size := Low.brk (i := p) ⟨h1, by omega, fun k hk1 hk2 => (blank_ascii (h3 k hk1 hk2)).2⟩ hb
    have hfr := one_fr h2 hbb h4
    have := chain_len r T.to hfr.2.2.2.1 hfr.2.2.1 h5
    rw [List.length_cons]
    omega
theorem segL_take (s : ByteArray) (T : Tk) : segL s T = List.take (T.to - T.fr) (List.drop T.fr s.data.toList) := by
  unfold segL
  rw [ByteArray.data_extract, Array.toList_extract]
theorem blk_lit (j : Nat) : ∀ h, (((⟨#[32, 10, 9, 13]⟩ : ByteArray)[j % 4]'h).toNat : Int) = ((blkC j).toNat : Int) := fun h => by
  rw [bAt_eq]
  have : j % 4 = 0 ∨ j % 4 = 1 ∨ j % 4 = 2 ∨ j % 4 = 3 := by omega
  unfold blkC
  rcases this with e | e | e | e <;> (rw [e]; rfl)
/-- The state behind i tokens. -/
structure BkS (s : ByteArray) (zs : List Int) (ts : List Tk) (base i : Nat) (v7 v8 : Value) (w : World) : Prop where
  b : OwnB w base v7 (layL s [] (itemsF zs 0 (ts.take i)))
  t : OwnT w base v8 (wantL 0 (itemsF zs 0 (ts.take i)))
set_option maxHeartbeats 8000000 in
set_option maxRecDepth 100000 in
theorem ScanBlanks_calls {A : Nat → Addr} {B : Nat} (s : ByteArray) (gv : Value) (zs : List Int) (w : World) (hs : s.size ≤ 1048576) (hg : IntsAt w gv zs) (hE : Env A B SVN w) :
    Calls Tryd.prog 6 #[.string s, gv] w fun e w' => e = .returned (.bool true) ∧ Below w.heap.size w w' := by
  have hs' : (s.size : Int) ≤ 1048576 := by omega
  have S := Lib.hid (fun w hE => Scan_calls (A := A) (B := B) s w hE (by omega))
  have hch := Lib.hid (fun h0 => some_chain (s := s) h0)
  have hlay := Lib.hid (fun h0 Z hZ it hit hgl => lay_scan (s := s) h0 (Z := Z) hZ it hit hgl)
  generalize hR : someS s = R at *
  replace hR := Lib.hid hR
  replace hs := Lib.hid hs
  obtain ⟨ga, gc, rfl⟩ : ∃ a c, gv = .slice a zs.length c := by
    rcases hg with ⟨rfl, a, c, rfl⟩ | ⟨b, off, cap, rfl, _⟩
    · exact ⟨a, c, rfl⟩
    · exact ⟨_, _, rfl⟩
  obtain ⟨m, hm⟩ : ∃ m, m = zs.length := ⟨_, rfl⟩
  rw [← hm] at hg ⊢
  replace hg := Lib.hid hg
  replace hm := Lib.hid hm
  go_enter Tryd.func6, Tryd.ntmps6
  (go_wp2_with fail; repeat (any_goals (go_quiet (fail); go_wp2_with fail)))
  refine (fixed17 _ (hE.next (by repeat (first | assumption | exact Below.refl _ _ | apply Below.drew | apply below_drewN | apply balloc | (refine Below.setCell ?_ (by first | omega | (simp <;> omega)) _))))).mono ?_
  rintro e w1 ⟨rfl, hb⟩
  have hb1 : Below w.heap.size w w1 := bcall (by repeat (first | assumption | exact Below.refl _ _ | apply Below.drew | apply below_drewN | apply balloc | (refine Below.setCell ?_ (by first | omega | (simp <;> omega)) _))) hb
  clear hb
  (go_wp2_with fail; repeat (any_goals (go_quiet (fail); go_wp2_with fail)))
  refine (S.out _ ((hE.next hb1).sub (by decide))).mono ?_
  rintro e w2 ⟨hr, hb⟩
  have hb2 : Below w.heap.size w w2 := bcall hb1 hb
  have hz12 := hb.size
  clear hb S
  unfold ScanR at hr
  by_cases h0 : R.2.1 = 0
  · rw [if_pos h0] at hr
    obtain ⟨v1, rfl, ho1⟩ := hr
    have ho1 : OwnT w2 w1.heap.size v1 R.1 := ho1
    obtain ⟨hu, hchain, _⟩ := hch.out h0
    have hv0 := Lib.hid ((utfE_brk s).1 hu)
    have hlen := chain_len _ 0 hv0.out (Nat.zero_le _) hchain
    have hbd := Lib.hid (chain_bd _ 0 hv0.out (Nat.zero_le _) hchain)
    have hrise := Lib.hid (chain_rise _ 0 hchain)
    replace hlay := Lib.hid (hlay.out h0)
    replace hu := Lib.hid hu
    replace h0 := Lib.hid h0
    replace hchain := Lib.hid hchain
    clear hch
    obtain ⟨la, lc, rfl⟩ := ho1.form2
    obtain ⟨n, hn⟩ : ∃ n, n = R.1.length := ⟨_, rfl⟩
    rw [← hn] at ho1 ⊢
    have hnle : (n : Int) ≤ 1048576 := by have := hs.out; omega
    replace hlen := Lib.hid hlen
    replace hn := Lib.hid hn
    replace ho1 := Lib.hid ho1
    by_cases hbig : m > 3000
    · have hbig' : (3000 : Int) < (m : Int) := by omega
      replace hbig := Lib.hid hbig
      (go_wp2_with fail; repeat (any_goals (go_quiet (fail); go_wp2_with fail)))
      go_ret
      exact ⟨rfl, hb2⟩
    have hbig' : ¬ (3000 : Int) < (m : Int) := by omega
    have hm3 : (m : Int) ≤ 3000 := by omega
    replace hbig := Lib.hid hbig
    replace hg := Lib.hid (hg.out.next hb2)
    (go_wp2_with fail; repeat (any_goals (go_quiet (fail); go_wp2_with fail)))
    rw [show decide ((3000 : Int) < (m : Int)) = false from decide_eq_false (by omega)]
    go_loopw [30, 7, 8] (fun v30 v7 v8 wr => ∃ i : Nat, i ≤ n ∧ v30 = .int .i64 (i : Int) ∧ Hid (BkS s zs R.1 w2.heap.size i v7 v8 wr) ∧ Below w2.heap.size w2 wr) (fun v _ _ _ => n - (intOf v).toNat)
    case atStart => exact ⟨0, Nat.zero_le _, rfl, Lib.hid ⟨OwnB.nil _ _, OwnT.nil _ _⟩, Below.refl _ _⟩
    case round =>
      obtain ⟨i, hi, rfl, H, hB⟩ := hrel
      obtain ⟨wo, rfl⟩ : ∃ wo : World, wo = wr := ⟨_, rfl⟩
      obtain ⟨a7, rfl⟩ : ∃ a : Value, a = u7 := ⟨_, rfl⟩
      obtain ⟨a8, rfl⟩ : ∃ a : Value, a = u8 := ⟨_, rfl⟩
      have hBw : Below w.heap.size w wo := bcall hb2 hB
      have hzr := hB.size
      have hLle : Hid ((layL s [] (itemsF zs 0 (R.1.take i))).length ≤ 1100000000000) := Lib.hid (by
        have h1 := layL_le s zs (R.1.take i) 0 0 (fun T hT => by
          have := hbd.out T (List.mem_of_mem_take hT)
          exact ⟨this.2.1, this.2.2.1⟩)
        have h2 : (R.1.take i).length ≤ 1048576 := by rw [List.length_take]; have := hlen.out; have := hs.out; omega
        have h3 := Nat.mul_le_mul h2 (show 6 + s.size ≤ 1048582 by have := hs.out; omega)
        omega)
      by_cases hlt : i < n
      · obtain ⟨T, hT⟩ : ∃ T, R.1[i]? = some T := ⟨R.1[i]'(by rw [← hn.out]; exact hlt), List.getElem?_eq_getElem _⟩
        obtain ⟨g, rfl⟩ : ∃ g, la = some ⟨g, 0, none⟩ := by
          have := ho1.out.form
          rcases this with ⟨h, _⟩ | ⟨g, cap, h, _⟩
          · rw [h] at hT; simp at hT
          · cases h; exact ⟨g, rfl⟩
        obtain ⟨y0, y1, y2, y3⟩ := (ho1.out.next hB).at hT
        have hTb := hbd.out T (List.mem_of_getElem? hT)
        have hft := hTb.2.1
        have hts := hTb.2.2.1
        obtain ⟨L, hL⟩ : ∃ L, L = layL s [] (itemsF zs 0 (R.1.take i)) := ⟨_, rfl⟩
        obtain ⟨W8, hW8⟩ : ∃ W8, W8 = wantL 0 (itemsF zs 0 (R.1.take i)) := ⟨_, rfl⟩
        have ho7 : Hid (OwnB wo w2.heap.size a7 L) := Lib.hid (by rw [hL]; exact H.out.b)
        have ho8 : Hid (OwnT wo w2.heap.size a8 W8) := Lib.hid (by rw [hW8]; exact H.out.t)
        rw [← hL] at hLle
        have hW8l : Hid (W8.length ≤ 1048576) := Lib.hid (by rw [hW8, wantL_len, itemsF_len, List.length_take]; have := hlen.out; have := hs.out; omega)
        have hsl := Lib.hid (segL_len (s := s) hts)
        have hgl := gapN_lt zs i
        obtain ⟨gN, hgN⟩ : ∃ gN, gN = gapN zs i := ⟨_, rfl⟩
        rw [← hgN] at hgl
        have hgN' : gapN zs i = gN := hgN.symm
        replace hgN' := Lib.hid hgN'
        have hgl' : (gN : Int) < 6 := by omega
        replace hL := Lib.hid hL
        replace hW8 := Lib.hid hW8
        replace hT := Lib.hid hT
        replace hTb := Lib.hid hTb
        clear H
        go_upto_if 38 with fail
        go_cut [7] (fun v wx => Hid (OwnB wx w2.heap.size v (L ++ gapL i gN)) ∧ Hid (OwnT wx w2.heap.size a8 W8) ∧ wx.heap[wo.heap.size]? = some (.cells #[.int .i64 (T.kind : Int), .int .i64 (T.fr : Int), .int .i64 (T.to : Int), .string T.text] 28 (0, 0)) ∧ Below w2.heap.size w2 wx)
        case first =>
          have hv := heap_alloc_new wo (.cells #[.int .i64 (T.kind : Int), .int .i64 (T.fr : Int), .int .i64 (T.to : Int), .string T.text] 28 (0, 0))
          by_cases him : i < m
          · have him' : (i : Int) < (m : Int) := by omega
            obtain ⟨z, hzz⟩ : ∃ z, zs[i]? = some z := ⟨zs[i]'(by rw [← hm.out]; exact him), List.getElem?_eq_getElem _⟩
            obtain ⟨u, hu1, hu0, hu6⟩ := gapN_some hzz
            rw [← hgN] at hu6
            obtain ⟨gb, off, rfl, hread⟩ : ∃ b off, ga = some ⟨b, off, none⟩ ∧ Hid (∀ W, Below w2.heap.size w2 W → W.cell? ⟨b, off + i, none⟩ = some (.int .i64 z)) := by
              rcases hg.out with ⟨h, _⟩ | ⟨b, off, cap, h1, _, _, h4, h5⟩
              · rw [h] at hzz; simp at hzz
              · cases h1
                exact ⟨b, off, rfl, Lib.hid (fun W hW => (hW.cell (p := ⟨b, off + i, none⟩) h4).trans (h5 i z hzz))⟩
            replace hzz := Lib.hid hzz
            replace hgN := Lib.hid hgN
            replace hv := Lib.hid hv
            (go_wp2_with fail; repeat (any_goals (go_quiet (fail); go_wp2_with fail)))
            rw [show decide (i < m) = true from decide_eq_true him]
            go_loopw [11, 7] (fun v11 v7 wx => ∃ k : Nat, k ≤ gN ∧ v11 = .int .i64 (k : Int) ∧ Hid (OwnB wx w2.heap.size v7 (L ++ gapL i k)) ∧ Hid (OwnT wx w2.heap.size a8 W8) ∧ Hid (wx.heap[wo.heap.size]? = some (.cells #[.int .i64 (T.kind : Int), .int .i64 (T.fr : Int), .int .i64 (T.to : Int), .string T.text] 28 (0, 0))) ∧ Below w2.heap.size w2 wx) (fun v _ _ => gN - (intOf v).toNat)
            case atStart => exact ⟨0, Nat.zero_le _, rfl, Lib.hid (by rw [gapL_zero, List.append_nil]; exact World.ownsRow.alloc ho7.out _), Lib.hid (World.ownsRow.alloc ho8.out _), hv, balloc hB⟩
            case round =>
              obtain ⟨k, hk, rfl, hob, hot, hvx, hBx⟩ := hrel
              have hrd := hread.out _ hBx
              have hzx := hBx.size
              have hvl := ltB hvx.out
              have hk6 : (k : Int) ≤ 6 := by omega
              by_cases hkl : k < gN
              · have hkl' : (k : Int) < (gN : Int) := by omega
                have hbl := blk_lit (i + k)
                have q1 : (((i : Int) + (k : Int)) % 4).toNat = (i + k) % 4 := by omega
                have q2 : 0 ≤ ((i : Int) + (k : Int)) % 4 := by omega
                have q3 : ((i : Int) + (k : Int)) % 4 < 4 := by omega
                go_wp2_with (at_builtin; refine app_lit rfl _ _ rfl w2.heap.size _ (L ++ gapL i k) rfl (show OwnB _ _ _ _ from World.ownsRow.alloc hob.out _) _ 1 1 _ _ _ [blkC (i + k)] rfl (heap_alloc_new _ _) ?c1 rfl (by have := hLle.out; rw [List.length_append, gapL_len]; omega) (by simp; omega) ?_)
                case c1 => unfold u8c; simp
                intro v' w3 ho3 hg3
                have hBn := (hBx.alloc hzx _).grown hg3 (by simp; omega) (fun k hk => OwnB.lt hob.out k hk)
                have hot3 := Lib.hid (keepB_T (show OwnB _ _ _ _ from World.ownsRow.alloc hob.out _) hg3 (show OwnT _ _ _ _ from World.ownsRow.alloc hot.out _))
                have hv3 := Lib.hid (keep_tk (show OwnB _ _ _ _ from World.ownsRow.alloc hob.out _) hg3 (box_next hvx.out ((Below.refl _ _).alloc (Nat.le_refl _) _)))
                replace ho3 : Hid (OwnB w3 w2.heap.size v' (L ++ gapL i (k + 1))) := Lib.hid (by rw [gapL_succ]; first | exact ho3 | (rw [← List.append_assoc]; exact ho3))
                clear hg3 q1 q2 q3 hbl hrd
                (go_wp2_with fail; repeat (any_goals (go_quiet (fail); go_wp2_with fail)))
                go_roundw
                case measure => simp [intOf]; omega
                case rel => exact ⟨k + 1, by omega, by go_num, ho3, hot3, hv3, hBn⟩
              · have hkn : k = gN := by omega
                subst hkn
                (go_wp2_with fail; repeat (any_goals (go_quiet (fail); go_wp2_with fail)))
                go_meet
                exact ⟨hob, hot, hvx.out, hBx⟩
          · have him' : ¬ (i : Int) < (m : Int) := by omega
            have h00 : gN = 0 := by rw [hgN]; exact gapN_none (by rw [← hm.out]; omega)
            subst h00
            replace hgN := Lib.hid hgN
            replace hv := Lib.hid hv
            (go_wp2_with fail; repeat (any_goals (go_quiet (fail); go_wp2_with fail)))
            go_meet
            exact ⟨Lib.hid (by rw [gapL_zero, List.append_nil]; exact World.ownsRow.alloc ho7.out _), Lib.hid (World.ownsRow.alloc ho8.out _), hv.out, balloc hB⟩
        case rest =>
          clear ho7 ho8 y0 y1 y2 y3
          obtain ⟨ho7, ho8, hv, hBx⟩ := hcut
          obtain ⟨b7, c7, he7⟩ := ho7.out.form
          obtain ⟨b8, c8, he8⟩ := ho8.out.form2
          subst he7 he8
          have hz1 := hBx.size
          have hvl := ltB hv
          have x0 := cellB hv 0 rfl
          have x1 := cellB hv 1 rfl
          have x2 := cellB hv 2 rfl
          have x3 := cellB hv 3 rfl
          have hLg : Hid ((L ++ gapL i gN).length ≤ 1100000000006) := Lib.hid (by have := hLle.out; rw [List.length_append, gapL_len]; omega)
          have hLg' : ((L ++ gapL i gN).length : Int) ≤ 1100000000006 := by have := hLg.out; omega
          have hez : Hid ((s.extract T.fr T.to).size = T.to - T.fr) := Lib.hid (by rw [ByteArray.size_extract]; omega)
          replace hv := Lib.hid hv
          obtain ⟨P, hP⟩ : ∃ P, P = L ++ gapL i gN := ⟨_, rfl⟩
          rw [← hP] at hLg hLg' ho7 ⊢
          replace hP := Lib.hid hP
          go_wp2_with (at_builtin; refine app_str rfl _ _ rfl w2.heap.size _ P rfl ho7.out (s.extract T.fr T.to) rfl (by have := hLg.out; have := hez.out; have := hs.out; omega) hz1 ?_)
          intro v' w3 ho3 hg3
          have hB3 := hBx.grown hg3 hz1 (fun k hk => OwnB.lt ho7.out k hk)
          have hv3 := keep_tk ho7.out hg3 hv.out
          have ho8' := Lib.hid (keepB_T ho7.out hg3 ho8.out)
          have hz3 := hB3.size
          have hvl3 := ltB hv3
          clear hg3 x0 x1 x2 x3
          have x0 := cellB hv3 0 rfl
          have x3 := cellB hv3 3 rfl
          replace hv3 := Lib.hid hv3
          rw [← segL_take] at ho3
          obtain ⟨Q, hQ⟩ : ∃ Q, Q = P ++ segL s T := ⟨_, rfl⟩
          rw [← hQ] at ho3
          have hQl : Hid (Q.length = P.length + (T.to - T.fr)) := Lib.hid (by
            rw [hQ, List.length_append, hsl.out])
          replace hQ := Lib.hid hQ
          obtain ⟨b9, c9, rfl⟩ := ho3.form
          replace ho3 := Lib.hid ho3
          go_wp2_with (at_builtin; refine app_tk rfl _ _ rfl w2.heap.size _ W8 rfl (show OwnT _ _ _ _ from World.ownsRow.alloc ho8'.out _) _ 1 _ _ _ ⟨T.kind, P.length, Q.length, T.text⟩ rfl (heap_alloc_new _ _) rfl (by have := hW8l.out; omega) (by simp; omega) ?_)
          intro v'' w4 ho4 hg4
          have hB4 := below_ownT (hB3.alloc hz3 _) (show OwnT _ _ _ _ from World.ownsRow.alloc ho8'.out _) hg4 (by simp; omega)
          have ho3' := Lib.hid (keepT_B (show OwnT _ _ _ _ from World.ownsRow.alloc ho8'.out _) hg4 (show OwnB _ _ _ _ from World.ownsRow.alloc ho3.out _))
          replace ho4 := Lib.hid ho4
          clear hg4 x0 x3
          have hst : Hid (BkS s zs R.1 w2.heap.size (i + 1) (.slice b9 Q.length c9) v'' w4) := Lib.hid (by
            have htk : R.1.take (i + 1) = R.1.take i ++ [T] := by
              have hil : i < R.1.length := by rw [← hn.out]; exact hlt
              rw [List.take_succ_eq_append_getElem hil]
              have := hT.out
              rw [List.getElem?_eq_getElem hil] at this
              cases this; rfl
            have htl : (R.1.take i).length = i := by rw [List.length_take, ← hn.out]; omega
            have hit : itemsF zs 0 (R.1.take (i + 1)) = itemsF zs 0 (R.1.take i) ++ [(gapL i gN, T)] := by
              rw [htk, itemsF_snoc, htl, Nat.zero_add, hgN'.out]
            refine ⟨?_, ?_⟩
            · rw [hit, layL_snoc, ← hL.out]
              have := ho3'.out
              rw [hQ.out, hP.out, List.append_assoc] at this
              rw [hQ.out, hP.out, List.append_assoc]
              exact this
            · rw [hit, wantL_snoc s _ _ _ _ (fun x hx => by
                have := itemsF_mem _ _ x hx
                exact (hbd.out _ (List.mem_of_mem_take this.2)).2.2.1), ← hW8.out, ← hL.out]
              have := ho4.out
              rw [hQl.out, hP.out, List.length_append] at this
              rw [Nat.zero_add]
              exact this)
          (go_wp2_with fail; repeat (any_goals (go_quiet (fail); go_wp2_with fail)))
          go_roundw
          case measure => simp [intOf]; omega
          case rel => exact ⟨i + 1, by omega, by go_num, hst, by assumption⟩
      · have hin : i = n := by omega
        obtain ⟨L, hL⟩ : ∃ L, L = layL s [] (itemsF zs 0 (R.1.take i)) := ⟨_, rfl⟩
        obtain ⟨W8, hW8⟩ : ∃ W8, W8 = wantL 0 (itemsF zs 0 (R.1.take i)) := ⟨_, rfl⟩
        have ho7 : Hid (OwnB wo w2.heap.size a7 L) := Lib.hid (by rw [hL]; exact H.out.b)
        have ho8 : Hid (OwnT wo w2.heap.size a8 W8) := Lib.hid (by rw [hW8]; exact H.out.t)
        rw [← hL] at hLle
        have hta : R.1.take i = R.1 := List.take_of_length_le (by rw [hin, hn.out]; exact Nat.le_refl _)
        have hLe : Hid (L = layL s [] (itemsF zs 0 R.1)) := Lib.hid (by rw [hL, hta])
        have hWe : Hid (W8 = wantL 0 (itemsF zs 0 R.1)) := Lib.hid (by rw [hW8, hta])
        clear H
        replace hL := Lib.hid hL
        replace hW8 := Lib.hid hW8
        replace hta := Lib.hid hta
        replace hin := Lib.hid hin
        by_cases hmn : n < m
        · have hmn' : (n : Int) < (m : Int) := by omega
          go_wp2_with (at_builtin; refine app_lit rfl _ _ rfl w2.heap.size _ L rfl (show OwnB _ _ _ _ from World.ownsRow.alloc ho7.out _) _ 2 2 _ _ _ [10, 32] rfl (heap_alloc_new _ _) rfl rfl (by have := hLle.out; omega) (by simp; omega) ?_)
          intro v' w3 ho3 hg3
          have hB3 := below_own (hB.alloc hzr _) (show OwnB _ _ _ _ from World.ownsRow.alloc ho7.out _) hg3 (by simp; omega)
          have ho83 := Lib.hid (keepB_T (show OwnB _ _ _ _ from World.ownsRow.alloc ho7.out _) hg3 (show OwnT _ _ _ _ from World.ownsRow.alloc ho8.out _))
          clear hg3
          replace ho3 := Lib.hid ho3
          have hcv := conv_own ho3.out
          have hsome : Hid ((∀ j, 1 ≤ j → j < R.1.length → ¬ gluedAt zs R.1 j) → someS ⟨(L ++ [10, 32]).toArray⟩ = (W8, 0, 0)) := Lib.hid (fun hno => by
            have hgk := glue_ok zs R.1 R.1 0 (fun j T h => by rw [Nat.zero_add]; exact h) hno hrise.out
            have := hlay.out [10, 32] (by intro c hc; simp at hc; try (rcases hc with rfl | rfl <;> decide)) (itemsF zs 0 R.1) (itemsF_mem R.1 0) hgk
            rw [layL_end, ← hLe.out] at this
            rw [hWe.out]
            simpa using this)
          have D := Lib.hid (fun w hE => Scan_calls (A := A) (B := B) ⟨(L ++ [10, 32]).toArray⟩ w hE (by rw [size_mk]; have := hLle.out; simp; omega))
          generalize hF : (⟨(L ++ [10, 32]).toArray⟩ : ByteArray) = F at *
          replace hF := Lib.hid hF
          (go_wp2_with fail; repeat (any_goals (go_quiet (fail); go_wp2_with fail)))
          refine (D.out _ ((hE.next (bcall hb2 hB3)).sub (by decide))).mono ?_
          rintro e w5 ⟨hr, hb⟩
          have hB5 := bcall hB3 hb
          have ho1x := ho1.out.next hB5
          have hgx := hg.out.next hB5
          have ho8x := Lib.hid (ho83.out.next hb)
          clear hb hcv D
          unfold ScanR at hr
          by_cases h5 : (someS F).2.1 = 0
          · rw [if_pos h5] at hr
            obtain ⟨v5, rfl, ho5⟩ := hr
            have ho5 := Lib.hid ho5
            replace h5 := Lib.hid h5
            replace ho1x := Lib.hid ho1x
            replace hgx := Lib.hid hgx
            (go_wp2_with fail; repeat (any_goals (go_quiet (fail); go_wp2_with fail)))
            refine (glued_calls s _ ho1x.out hgx.out (by have := hm.out; omega)).mono ?_
            rintro e w6 ⟨⟨bb, rfl, hbb⟩, hb⟩
            have hB6 := bcall hB5 hb
            cases bb with
            | true =>
              clear hb hbb
              (go_wp2_with fail; repeat (any_goals (go_quiet (fail); go_wp2_with fail)))
              go_ret
              exact ⟨rfl, bcall hb2 (by repeat (first | assumption | apply Below.drew | apply below_drewN))⟩
            | false =>
              have hso := hsome.out (hbb rfl)
              have h5' := ho5.out
              rw [hso] at h5'
              have ho5x := OwnT.next (show OwnT _ _ _ W8 from h5') hb
              clear h5'
              have ho8y := ho8x.out.next hb
              replace hso := Lib.hid hso
              clear hb hbb
              replace ho5x := Lib.hid ho5x
              replace ho8y := Lib.hid ho8y
              (go_wp2_with fail; repeat (any_goals (go_quiet (fail); go_wp2_with fail)))
              refine (same_true _ ho5x.out ho8y.out).mono ?_
              rintro e w7 ⟨rfl, hb⟩
              have hB7 := bcall hB6 hb
              clear hb
              (go_wp2_with fail; repeat (any_goals (go_quiet (fail); go_wp2_with fail)))
              go_ret
              exact ⟨rfl, bcall hb2 (by repeat (first | assumption | apply Below.drew | apply below_drewN))⟩
          · rw [if_neg h5] at hr
            obtain ⟨g5, hg5, rfl, hat5⟩ := hr
            clear hat5 hg5
            replace h5 := Lib.hid h5
            replace ho1x := Lib.hid ho1x
            replace hgx := Lib.hid hgx
            (go_wp2_with fail; repeat (any_goals (go_quiet (fail); go_wp2_with fail)))
            refine (glued_calls s _ ho1x.out hgx.out (by have := hm.out; omega)).mono ?_
            rintro e w6 ⟨⟨bb, rfl, hbb⟩, hb⟩
            have hB6 := bcall hB5 hb
            cases bb with
            | true =>
              clear hb hbb
              (go_wp2_with fail; repeat (any_goals (go_quiet (fail); go_wp2_with fail)))
              go_ret
              exact ⟨rfl, bcall hb2 (by repeat (first | assumption | apply Below.drew | apply below_drewN))⟩
            | false =>
              exfalso
              apply h5.out
              rw [hsome.out (hbb rfl)]
        · have hmn' : ¬ (n : Int) < (m : Int) := by omega
          have hcv := conv_own ho7.out
          have hsome : Hid ((∀ j, 1 ≤ j → j < R.1.length → ¬ gluedAt zs R.1 j) → someS ⟨(L).toArray⟩ = (W8, 0, 0)) := Lib.hid (fun hno => by
            have hgk := glue_ok zs R.1 R.1 0 (fun j T h => by rw [Nat.zero_add]; exact h) hno hrise.out
            have := hlay.out [] (by intro c hc; simp at hc; try (rcases hc with rfl | rfl <;> decide)) (itemsF zs 0 R.1) (itemsF_mem R.1 0) hgk
            rw [layL_end, ← hLe.out] at this
            rw [hWe.out]
            simpa using this)
          have D := Lib.hid (fun w hE => Scan_calls (A := A) (B := B) ⟨(L).toArray⟩ w hE (by rw [size_mk]; have := hLle.out; simp; omega))
          generalize hF : (⟨(L).toArray⟩ : ByteArray) = F at *
          replace hF := Lib.hid hF
          (go_wp2_with fail; repeat (any_goals (go_quiet (fail); go_wp2_with fail)))
          refine (D.out _ ((hE.next (bcall hb2 hB)).sub (by decide))).mono ?_
          rintro e w5 ⟨hr, hb⟩
          have hB5 := bcall hB hb
          have ho1x := ho1.out.next hB5
          have hgx := hg.out.next hB5
          have ho8x := Lib.hid (ho8.out.next hb)
          clear hb hcv D
          unfold ScanR at hr
          by_cases h5 : (someS F).2.1 = 0
          · rw [if_pos h5] at hr
            obtain ⟨v5, rfl, ho5⟩ := hr
            have ho5 := Lib.hid ho5
            replace h5 := Lib.hid h5
            replace ho1x := Lib.hid ho1x
            replace hgx := Lib.hid hgx
            (go_wp2_with fail; repeat (any_goals (go_quiet (fail); go_wp2_with fail)))
            refine (glued_calls s _ ho1x.out hgx.out (by have := hm.out; omega)).mono ?_
            rintro e w6 ⟨⟨bb, rfl, hbb⟩, hb⟩
            have hB6 := bcall hB5 hb
            cases bb with
            | true =>
              clear hb hbb
              (go_wp2_with fail; repeat (any_goals (go_quiet (fail); go_wp2_with fail)))
              go_ret
              exact ⟨rfl, bcall hb2 (by repeat (first | assumption | apply Below.drew | apply below_drewN))⟩
            | false =>
              have hso := hsome.out (hbb rfl)
              have h5' := ho5.out
              rw [hso] at h5'
              have ho5x := OwnT.next (show OwnT _ _ _ W8 from h5') hb
              clear h5'
              have ho8y := ho8x.out.next hb
              replace hso := Lib.hid hso
              clear hb hbb
              replace ho5x := Lib.hid ho5x
              replace ho8y := Lib.hid ho8y
              (go_wp2_with fail; repeat (any_goals (go_quiet (fail); go_wp2_with fail)))
              refine (same_true _ ho5x.out ho8y.out).mono ?_
              rintro e w7 ⟨rfl, hb⟩
              have hB7 := bcall hB6 hb
              clear hb
              (go_wp2_with fail; repeat (any_goals (go_quiet (fail); go_wp2_with fail)))
              go_ret
              exact ⟨rfl, bcall hb2 (by repeat (first | assumption | apply Below.drew | apply below_drewN))⟩
          · rw [if_neg h5] at hr
            obtain ⟨g5, hg5, rfl, hat5⟩ := hr
            clear hat5 hg5
            replace h5 := Lib.hid h5
            replace ho1x := Lib.hid ho1x
            replace hgx := Lib.hid hgx
            (go_wp2_with fail; repeat (any_goals (go_quiet (fail); go_wp2_with fail)))
            refine (glued_calls s _ ho1x.out hgx.out (by have := hm.out; omega)).mono ?_
            rintro e w6 ⟨⟨bb, rfl, hbb⟩, hb⟩
            have hB6 := bcall hB5 hb
            cases bb with
            | true =>
              clear hb hbb
              (go_wp2_with fail; repeat (any_goals (go_quiet (fail); go_wp2_with fail)))
              go_ret
              exact ⟨rfl, bcall hb2 (by repeat (first | assumption | apply Below.drew | apply below_drewN))⟩
            | false =>
              exfalso
              apply h5.out
              rw [hsome.out (hbb rfl)]
  · rw [if_neg h0] at hr
    obtain ⟨g, hg, rfl, hat⟩ := hr
    replace h0 := Lib.hid h0
    clear hat
    (go_wp2_with fail; repeat (any_goals (go_quiet (fail); go_wp2_with fail)))
    go_ret
    exact ⟨rfl, hb2⟩

end Go.Proofs.YtnldhgkmbighkaaDoor
