/- The reference of chapter 17: Quote. -/
import Derived.Test.YtnldhgkmbighkaaDoorQuoteW
import Derived.Deep.RegionLaw
namespace Go.Proofs.YtnldhgkmbighkaaDoor
open Go Go.RowKit

theorem step_app_lit {ops : Array Oper} {o : Oper} {a : Act} {w : World} {K : Act → World → Prop} {Q : Exit → Act → World → Prop} {E : Prop}
    (hgd : o.guard = none) (sl x : Operand) (ho : o.op = .call { callee := .builtin .append, args := #[sl, x], argTypes := #[29, 29] }) (base : Nat) (v : Value) (l : List UInt8) (hs : a.eval sl = v) (hown : OwnB w base v l)
    (g k c : Nat) (cs : Array Value) (t : TypeId) (fr : Nat × Nat) (news : List UInt8) (hx : a.eval x = .slice (some ⟨g, 0, none⟩) k c) (hg : w.heap[g]? = some (.cells cs t fr)) (hcs : cs = (u8c news).toArray) (hk : news.length = k)
    (hlen : l.length + k ≤ 140737488355328) (hbase : base ≤ w.heap.size)
    (h : ∀ v' w', OwnB w' base v' (l ++ news) → w.grownBy w' v.ownBlock → K (a.put o.dst v') w') : if Region.wanted o (yielded ops a.tmps) = true then Oper.wp Tryd.prog o a w K Q else E := by
  have hw : Region.wanted o (yielded ops a.tmps) = true := by simp [Region.wanted, hgd]
  rw [if_pos hw]
  obtain ⟨i0, hi, hi2⟩ := Option.map_eq_some_iff.1 infoU8
  simp only [Prod.mk.injEq] at hi2
  refine wp_append_own _ sl x 29 ho base 5 i0 (.int .u8 0) 1 1 Tryd.underlying29 hi hi2.1 hi2.2.1 hi2.2.2 rfl (by decide) v l.length (u8c l) hs hown ⟨g, 0, none⟩ k c (u8c news) hx (by rw [u8c_len]; omega) ?_ ?_ (by unfold maxLen; omega) (by omega) hbase ?_
  · intro j u hj
    have : (⟨g, 0, none⟩ : Addr).add j = ⟨g, j, none⟩ := by simp only [Addr.add, Nat.zero_add]; split <;> simp_all
    rw [this]
    refine cellB hg j ?_
    rw [hcs, List.getElem?_toArray]
    exact hj
  · intro u hu
    obtain ⟨b, _, rfl⟩ := List.mem_map.1 hu
    rfl
  · intro v' w' h1 h2 _
    refine h v' w' ?_ h2
    unfold OwnB
    rw [u8c_append, List.length_append, hk]
    exact h1
theorem hexB_at3 (c : Nat) (hc : c / 16 < 16) : ∀ h, (((⟨#[48, 49, 50, 51, 52, 53, 54, 55, 56, 57, 97, 98, 99, 100, 101, 102]⟩ : ByteArray)[c / 16]'h).toNat : Int) = ((hexL.getD (c / 16) 0).toNat : Int) := fun h => by
  rw [bAt_eq, hexB_at _ hc]
set_option maxHeartbeats 4000000 in
set_option maxRecDepth 100000 in
theorem rQuote_calls (s : ByteArray) (w : World) (hs : s.size ≤ 3518437208882) :
    Calls Tryd.prog 15 #[.string s] w fun e w' => e = .returned (.string (quoteS s)) ∧ Below w.heap.size w w' := by
  have hs' : (s.size : Int) ≤ 3518437208882 := by omega
  obtain ⟨R, hR⟩ : ∃ R, R = quoteS s := ⟨_, rfl⟩
  rw [← hR]
  replace hR := Lib.hid hR
  replace hs := Lib.hid hs
  go_enter Tryd.func15, Tryd.ntmps15
  (go_wp2_with fail; repeat (any_goals (go_quiet (fail); go_wp2_with fail)))
  go_loopw [5, 4] (fun v5 v4 wr => ∃ k : Nat, k ≤ s.size ∧ v5 = .int .i64 (k : Int) ∧ Hid (OwnB wr w.heap.size v4 (quoteK s k)) ∧ Below w.heap.size w wr) (fun v _ _ => s.size - (intOf v).toNat)
  case atStart => exact ⟨0, Nat.zero_le _, rfl, Lib.hid (OwnB.lit [34] _ rfl (Nat.le_refl _) (by decide) rfl rfl), (by repeat (first | assumption | exact Below.refl _ _ | apply Below.drew | apply below_drewN | apply balloc | (refine Below.setCell ?_ (by first | omega | (simp <;> omega)) _)))⟩
  case round =>
    obtain ⟨k, hk, rfl, ho1, hB⟩ := hrel
    have hx := byte_at s k
    have hz := hB.size
    have hql := Lib.hid (quoteK_len s k hk)
    by_cases hlt : k < s.size
    · have hlt' : (k : Int) < (s.size : Int) := by omega
      have hc := bAt_lt s k
      have hS := Lib.hid (quoteK_succ hlt)
      by_cases h2 : bAt s k = 34 ∨ bAt s k = 92
      · have hesc := Lib.hid (escB_two hc h2)
        have hn := Lib.hid (u8n hc)
        generalize bAt s k = c at *
        by_cases h34 : c = 34
        · have h34' : ((c : Int) == 34) = true := by simp; omega
          replace h34 := Lib.hid h34
          replace h2 := Lib.hid h2
          go_wp2_with (at_builtin; refine app_lit rfl _ _ rfl w.heap.size _ (quoteK s k) rfl (show OwnB _ _ _ _ from World.ownsRow.alloc ho1.out _) _ 2 2 _ _ _ [92, UInt8.ofNat c] rfl (heap_alloc_new _ _) ?c1 rfl (by have := hql.out; have := hs.out; omega) (by simp; omega) ?_)
          case c1 => unfold u8c; simp only [List.map_cons, List.map_nil, hn.out]; rfl
          intro v' w2 ho2 hg
          have hb2 := below_own (hB.alloc hz _) (show OwnB _ _ _ _ from World.ownsRow.alloc ho1.out _) hg (by simp; omega)
          replace ho2 := Lib.hid ho2
          clear hg
          (go_wp2_with fail; repeat (any_goals (go_quiet (fail); go_wp2_with fail)))
          go_roundw
          case measure => simp [intOf]; omega
          case rel => exact ⟨k + 1, by omega, by go_num, Lib.hid (by rw [hS.out, hesc.out]; exact ho2.out), by assumption⟩
        · have h34' : ((c : Int) == 34) = false := by simp; omega
          have h92' : ((c : Int) == 92) = true := by simp; omega
          replace h34 := Lib.hid h34
          replace h2 := Lib.hid h2
          go_wp2_with (at_builtin; refine app_lit rfl _ _ rfl w.heap.size _ (quoteK s k) rfl (show OwnB _ _ _ _ from World.ownsRow.alloc ho1.out _) _ 2 2 _ _ _ [92, UInt8.ofNat c] rfl (heap_alloc_new _ _) ?c1 rfl (by have := hql.out; have := hs.out; omega) (by simp; omega) ?_)
          case c1 => unfold u8c; simp only [List.map_cons, List.map_nil, hn.out]; rfl
          intro v' w2 ho2 hg
          have hb2 := below_own (hB.alloc hz _) (show OwnB _ _ _ _ from World.ownsRow.alloc ho1.out _) hg (by simp; omega)
          replace ho2 := Lib.hid ho2
          clear hg
          (go_wp2_with fail; repeat (any_goals (go_quiet (fail); go_wp2_with fail)))
          go_roundw
          case measure => simp [intOf]; omega
          case rel => exact ⟨k + 1, by omega, by go_num, Lib.hid (by rw [hS.out, hesc.out]; exact ho2.out), by assumption⟩
      · have h34' : ((bAt s k : Int) == 34) = false := by simp; omega
        have h92' : ((bAt s k : Int) == 92) = false := by simp; omega
        by_cases h32 : bAt s k < 32
        · have hesc := Lib.hid (escB_six h32)
          have h32' : (bAt s k : Int) < 32 := by omega
          have e1 := Lib.hid (hexL_hi _ h32)
          clear e1
          have i1 := hexB_at3 (bAt s k) (by omega)
          have i2 := hexB_at2 (bAt s k)
          have hcI : (bAt s k : Int) < 256 := by omega
          generalize bAt s k = c at *
          have q1 : IntKind.u8.wrap ((c : Int) / 16) = (c : Int) / 16 := by simp [IntKind.wrap, IntKind.signed, IntKind.bits]; omega
          have q2 : (c : Int) / 16 < 16 := by omega
          have q3 : 0 ≤ (c : Int) / 16 := by omega
          have q4 : ((c : Int) / 16).toNat = c / 16 := by omega
          have q5 : (c : Int).tmod 16 = (c : Int) % 16 := Int.tmod_eq_emod_of_nonneg (by omega)
          have q6 : (c : Int) % 16 < 16 := by omega
          have q7 : 0 ≤ (c : Int) % 16 := by omega
          have q8 : ((c : Int) % 16).toNat = c % 16 := by omega
          replace h2 := Lib.hid h2
          go_wp2_with fail
          go_region_law (refine step_app_lit rfl (.tmp 41) (.tmp 54) rfl w.heap.size _ (quoteK s k) (by simp [Act.eval]; rfl) (by exact OwnB.next ho1.out (by repeat (first | assumption | exact Below.refl _ _ | apply Below.drew | apply below_drewN | apply balloc | (refine Below.setCell ?_ (by first | omega | (simp <;> omega)) _)))) _ 6 6 _ _ _ [92, 117, 48, 48, hexL.getD (c / 16) 0, hexL.getD (c % 16) 0] (by simp [Act.eval]) (heap_alloc_new _ _) (by rfl) rfl (by have := hql.out; have := hs.out; omega) (Below.size (B := w.heap.size) (w := w) (by exact (by repeat (first | assumption | exact Below.refl _ _ | apply Below.drew | apply below_drewN | apply balloc | (refine Below.setCell ?_ (by first | omega | (simp <;> omega)) _))))) ?_; intro v' w2 ho2 hg)
          all_goals
            have hb2 : Below w.heap.size w w2 := by
              refine below_own (l := quoteK s k) ?_ ?_ hg ?_
              · exact (by repeat (first | assumption | exact Below.refl _ _ | apply Below.drew | apply below_drewN | apply balloc | (refine Below.setCell ?_ (by first | omega | (simp <;> omega)) _)))
              · exact OwnB.next ho1.out (by repeat (first | assumption | exact Below.refl _ _ | apply Below.drew | apply below_drewN | apply balloc | (refine Below.setCell ?_ (by first | omega | (simp <;> omega)) _)))
              · first | omega | (simp; omega)
            replace ho2 := Lib.hid ho2
            clear hg q1 q2 q3 q4 q5 q6 q7 q8 i1 i2
            (go_wp2_with fail; repeat (any_goals (go_quiet (fail); go_wp2_with fail)))
            go_roundw
            case measure => simp [intOf]; omega
            case rel => exact ⟨k + 1, by omega, by go_num, Lib.hid (by rw [hS.out, hesc.out]; exact ho2.out), by assumption⟩
        · have h32' : ¬ (bAt s k : Int) < 32 := by omega
          have hesc := Lib.hid (escB_one hc (fun h => h2 (Or.inl h)) (fun h => h2 (Or.inr h)) h32)
          have hn := Lib.hid (u8n hc)
          generalize bAt s k = c at *
          replace h2 := Lib.hid h2
          go_wp2_with (at_builtin; refine app_lit rfl _ _ rfl w.heap.size _ (quoteK s k) rfl (show OwnB _ _ _ _ from World.ownsRow.alloc ho1.out _) _ 1 1 _ _ _ [UInt8.ofNat c] rfl (heap_alloc_new _ _) ?c1 rfl (by have := hql.out; have := hs.out; omega) (by simp; omega) ?_)
          case c1 => unfold u8c; simp only [List.map_cons, List.map_nil, hn.out]
          intro v' w2 ho2 hg
          have hb2 := below_own (hB.alloc hz _) (show OwnB _ _ _ _ from World.ownsRow.alloc ho1.out _) hg (by simp; omega)
          replace ho2 := Lib.hid ho2
          clear hg
          (go_wp2_with fail; repeat (any_goals (go_quiet (fail); go_wp2_with fail)))
          go_roundw
          case measure => simp [intOf]; omega
          case rel => exact ⟨k + 1, by omega, by go_num, Lib.hid (by rw [hS.out, hesc.out]; exact ho2.out), by assumption⟩
    · obtain rfl : k = s.size := by omega
      have hend := Lib.hid (quoteK_end s)
      go_wp2_with (at_builtin; refine app_lit rfl _ _ rfl w.heap.size _ (quoteK s s.size) rfl (show OwnB _ _ _ _ from World.ownsRow.alloc ho1.out _) _ 1 1 _ _ _ [34] rfl (heap_alloc_new _ _) rfl rfl (by have := hql.out; have := hs.out; omega) (by simp; omega) ?_)
      intro v' w2 ho2 hg
      have hb2 := below_own (hB.alloc hz _) (show OwnB _ _ _ _ from World.ownsRow.alloc ho1.out _) hg (by simp; omega)
      have hcv := conv_own ho2
      rw [hend.out, ← hR.out] at hcv
      replace ho2 := Lib.hid ho2
      clear hg
      (go_wp2_with fail; repeat (any_goals (go_quiet (fail); go_wp2_with fail)))
      go_ret
      exact ⟨rfl, hb2⟩

end Go.Proofs.YtnldhgkmbighkaaDoor
