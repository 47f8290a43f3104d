/- Lemmas of the proof, put together: Tree6, Tree7, Tree8, Tree9, Lay, TreePlain, QuoteW, TreeLen, Fmt1. -/
import Derived.Test.YtibopkodoidjoaaGreatDoorM5
import Derived.Deep.AppendLies
import Derived.Test.YtibopkodoidjoaaGreatDoorM4
import Derived.Defers
import Derived.Recover
import Derived.Test.YtibopkodoidjoaaGreatDoorM2
import Derived.Test.YtibopkodoidjoaaGreatDoorM1

/- Package tree: the parser reads an object. -/
namespace Go.Proofs.YtibopkodoidjoaaGreatDoor
open Go Go.RowKit

section
variable {ops : Array Oper} {o : Oper} {a : Act} {Q : Exit → Act → World → Prop} {w : World} {K : Act → World → Prop} {E : Prop}
/-- append(list, c) of a member, in a region that draws. -/
theorem step_app_kid (hgd : o.guard = none) (sl x : Operand) (t e : TypeId) (size bytes : Nat) (cell : Kid → List Value) (z : Value) (hi : (Tryz.prog.info? e).map (fun i => (i.zero, i.size, i.bytes)) = some (some z, size, bytes)) (hz : z.cells.size = size) (hsz : 0 < size) (hby : bytes ≤ 40) (hcl : ∀ c, (cell c).length = size)
    (ht : Tryz.prog.underlying t = some (.slice e)) (ho : o.op = .call { callee := .builtin .append, args := #[sl, x], argTypes := #[t, t] }) (n0 n1 : Nat) (v : Value) (cs : List Kid) (hs : a.eval sl = v) (hK : Kids e size cell n0 w v cs)
    (g cp : Nat) (c : Kid) (cur : Array Value) (t' : TypeId) (hx : a.eval x = .slice (some ⟨g, 0, none⟩) 1 cp) (hg : w.heap[g]? = some (.cells cur t' (0, 0))) (hcur : cur = (cell c).toArray)
    (hlen : cs.length + 1 ≤ 3518437208883) (hn : n0 ≤ n1) (hn1 : n1 ≤ w.heap.size) (hle : ∀ c ∈ cs, c.h ≤ n1) (hlv : ∀ k, v.ownBlock = some k → k < n1) (hl : c.l = n1) (hh : c.h = w.heap.size) (hN : OwnN w c.l c.h c.u c.x) (h1 : ∀ u ∈ cell c, u.oneCell' = true)
    (h : ∀ v' w', Kids e size cell n0 w' v' (cs ++ [c]) → w.grownBy w' v.ownBlock → K (a.put o.dst v') w') : if Region.wanted o (yielded ops a.tmps) = true then Oper.wp Tryz.prog o a w K Q else E := by
  obtain ⟨i0, hi, hi2⟩ := Option.map_eq_some_iff.1 hi
  simp only [Prod.mk.injEq] at hi2
  refine step_append_lies w hgd sl x t ho n0 e i0 z size bytes ht hi hi2.1 hi2.2.1 hi2.2.2 hz hsz v cs.length (cs.flatMap cell) hs hK.own ⟨g, 0, none⟩ 1 cp (cell c) hx (by rw [hcl]; omega) ?_ h1 (by decide) (by unfold maxLen; omega) ?_ (Nat.le_trans hn hn1) w.heap.size rfl ?_
  · intro j u hj
    have : (⟨g, 0, none⟩ : Addr).add j = ⟨g, j, none⟩ := by simp only [Addr.add, Nat.zero_add]; split <;> simp_all
    rw [this]
    refine cellB hg j ?_
    rw [hcur, List.getElem?_toArray]
    exact hj
  · have := Nat.mul_le_mul hlen hby
    omega
  · intro g2 cap w' ho2 hg2 hv _
    refine h _ w' (hK.app hn hle hlv hl hh hn1 hN ho2 hg2 ?_) hg2
    rcases hv with hv | hv
    · exact Or.inl hv.symm
    · exact Or.inr ⟨g2, rfl, by omega⟩
end
theorem Kids.low {e : TypeId} {size : Nat} {cell : Kid → List Value} {n0 n1 : Nat} {w : World} {v : Value} {cs : List Kid} (h : Kids e size cell n0 w v cs) (hn : n1 ≤ n0) : Kids e size cell n1 w v cs :=
  ⟨ownsRow_base h.own hn, fun c hm => (h.fit c hm).wide hn (Nat.le_refl _), h.pair, h.kid⟩
theorem textT_eq {ts : List Tk} {p : Nat} {T : Tk} (h : ts[p]? = some T) : textT ts p = T.text := by unfold textT; rw [h]
theorem placeT_eq {s : ByteArray} {ts : List Tk} {p : Nat} {T : Tk} (h : ts[p]? = some T) : placeT s ts p = T.fr := by unfold placeT; rw [h]
theorem wrap_deep {deep : Nat} (h : deep < 64) : IntKind.i64.wrap ((deep : Int) + 1) = (deep : Int) + 1 := by
  simp [IntKind.wrap, IntKind.bits]
  omega
/-- A token lies in block g. -/
def TokHeld (g : Nat) (T : Tk) (w : World) : Prop := w.heap[g]? = some (.cells #[.int .i64 (T.kind : Int), .int .i64 (T.fr : Int), .int .i64 (T.to : Int), .string T.text] 59 (0, 0))
theorem TokHeld.cells {g : Nat} {T : Tk} {w : World} (h : TokHeld g T w) : w.cell? ⟨g, 1, none⟩ = some (.int .i64 (T.fr : Int)) ∧ w.cell? ⟨g, 3, none⟩ = some (.string T.text) ∧ TokHeld g T w := ⟨cellB h 1 rfl, cellB h 3 rfl, h⟩
theorem TokHeld.drew {g : Nat} {T : Tk} {w : World} (h : TokHeld g T w) : TokHeld g T w.drew := h
theorem TokHeld.alloc {g : Nat} {T : Tk} {w : World} (h : TokHeld g T w) (o : Obj) : TokHeld g T (w.alloc o) := box_next h ((Below.refl _ _).alloc (Nat.le_refl _) _)
theorem TokHeld.grown {g b : Nat} {T : Tk} {w w' : World} (h : TokHeld g T w) (hg : w.grownBy w' (some b)) (hne : g ≠ b) : TokHeld g T w' := (hg.block g (ltB h) (fun e => hne (Option.some.inj e))).trans h
theorem TokHeld.row {g : Nat} {o : Option Nat} {T : Tk} {w w' : World} (h : TokHeld g T w) (hg : w.grownBy w' o) (hne : o ≠ some g) : TokHeld g T w' := (hg.block g (ltB h) (fun e => hne e.symm)).trans h
theorem Kids.drew {e : TypeId} {size : Nat} {cell : Kid → List Value} {n0 : Nat} {w : World} {v : Value} {cs : List Kid} (h : Kids e size cell n0 w v cs) : Kids e size cell n0 w.drew v cs := h.below (below_drewN (Below.refl _ _) 1)
set_option maxHeartbeats 4000000 in
set_option maxRecDepth 100000 in
theorem members_calls {A : Nat → Addr} {B base : Nat} {s : ByteArray} {v : Value} {ts : List Tk} (f : Nat) (hV : ∀ f', f' < f → VC A B base s v ts f') (deep p b : Nat) (w : World) (hW : PsW A B base s v ts p b w) (h6 : kindT ts p = 6) (hd : deep < 64) (hl : ts.length ≤ 3518437208882) (htx : ∀ T ∈ ts, T.text.size ≤ maxLen)
    (r : PR (List (ByteArray × Nat × Nd))) (hr : r = if kindT ts (p + 1) = 7 then .ok [] (p + 2) else pM s ts f deep [] (p + 1)) (hout : r ≠ .out) :
    Calls Tryz.prog 60 #[.pointer (some ⟨b, 0, none⟩), .int .i64 (deep : Int)] w (PostM A s v b w r) := by
  have hbl := hW.lt
  replace hW := Lib.hid hW
  replace hV := Lib.hid hV
  replace hr := Lib.hid hr
  replace hout := Lib.hid hout
  replace hl := Lib.hid hl
  replace htx := Lib.hid htx
  have hmm := @run_makeMap Tryz.prog
  go_enter Tryz.func60, Tryz.ntmps60
  (go_wp2_with fail; repeat (any_goals (go_quiet (fail); go_wp2_with fail)))
  refine (PsW.take_ok (hW.out.next (by repeat (first | assumption | exact Below.refl _ _ | apply Below.drew | apply below_drewN | apply balloc | (refine Below.setCell ?_ (by first | omega | (simp <;> omega)) _)))) h6 (by decide)).mono ?_
  rintro e w1 ⟨⟨T, hT, rfl⟩, hW1, hg1⟩
  replace hT := Lib.hid hT
  unfold tkV
  have hm0 : w1.ownsMap Tryz.prog 9 (plainElem (H := Unit) Tryz.prog 4) w.heap.size 0 (.map []) := (World.ownsMap_made w _ _ _).kept hg1 (fun e => by cases e; omega)
  by_cases h7 : kindT ts (p + 1) = 7
  · have hr1 := hr.out
    rw [if_pos h7] at hr1
    replace hr1 := Lib.hid hr1
    have N := Lib.hid (fun w (h : PsW A B base s v ts (p + 1) b w) => h.next_calls h7)
    have hpb : ((p + 1 : Nat) : Int) ≤ 3518437208882 := by have := hW1.hp; have := hl.out; omega
    have hg1 := grown_trans (grown_of_below (r := some b) (show Below w.heap.size w _ from (by repeat (first | assumption | exact Below.refl _ _ | apply Below.drew | apply below_drewN | apply balloc | (refine Below.setCell ?_ (by first | omega | (simp <;> omega)) _))))) hg1
    generalize hp1 : p + 1 = p1 at *
    replace hp1 := Lib.hid hp1
    replace hW1 := Lib.hid hW1
    replace hg1 := Lib.hid hg1
    (go_wp2_with fail; repeat (any_goals (go_quiet (fail); go_wp2_with fail)))
    refine (N.out _ hW1.out).mono ?_
    rintro e w2 ⟨rfl, hb⟩
    have hW2 := hW1.out.next hb
    have hg2 := grown_belowR hg1.out hb
    clear hb
    have x2 := hW2.ps.c2
    have f2 := freeB hW2.ps 2
    replace hW2 := Lib.hid hW2
    replace hg2 := Lib.hid hg2
    (go_wp2_with fail; repeat (any_goals (go_quiet (fail); go_wp2_with fail)))
    go_ret
    refine ⟨grown_trans hg2.out (grown_set _ _ _ _), ?_⟩
    rw [hr1.out]
    refine ⟨_, [], rfl, Kids.nil _ _ _ _ _, rfl, ?_⟩
    have h1 := hW2.out.ps.inc
    rw [show p1 + 1 = p + 2 by have := hp1.out; omega] at h1
    exact h1
  · have hr1 := hr.out
    rw [if_neg h7] at hr1
    replace hr1 := Lib.hid hr1
    have N := Lib.hid (fun w (h : PsW A B base s v ts (p + 1) b w) => h.next_calls (k := kindT ts (p + 1)) rfl)
    have hne : ((kindT ts (p + 1) : Int) == 7) = false := by simp; omega
    have hne' : ¬ (kindT ts (p + 1) : Int) = 7 := by omega
    have hp1le := hW1.hp
    have hg1 := grown_trans (grown_of_below (r := some b) (show Below w.heap.size w _ from (by repeat (first | assumption | exact Below.refl _ _ | apply Below.drew | apply below_drewN | apply balloc | (refine Below.setCell ?_ (by first | omega | (simp <;> omega)) _))))) hg1
    generalize hp1 : p + 1 = p1 at *
    generalize hK : kindT ts p1 = K1 at *
    replace hp1 := Lib.hid hp1
    replace hK := Lib.hid hK
    replace hW1 := Lib.hid hW1
    replace hg1 := Lib.hid hg1
    (go_wp2_with fail; repeat (any_goals (go_quiet (fail); go_wp2_with fail)))
    refine (N.out _ hW1.out).mono ?_
    rintro e w2 ⟨rfl, hb⟩
    have hW2 := hW1.out.next hb
    have hg2 := grown_belowR hg1.out hb
    have hm2 := hm0.kept (grown_of_below (r := none) hb) (by simp)
    clear hb hm0 N
    replace hW2 := Lib.hid hW2
    replace hg2 := Lib.hid hg2
    replace hm2 := Lib.hid hm2
    (go_wp2_with fail; repeat (any_goals (go_quiet (fail); go_wp2_with fail)))
    go_loopg [5] f (fun kq lv wr => ∃ (q : Nat) (cs : List Kid) (D : DataW Unit) (n : Nat), PsB s v q b wr ∧ Hid (w.grownBy wr (some b)) ∧ Hid (Kids 103 3 memC (w.heap.size + 1) wr lv cs) ∧ Hid (wr.ownsMap Tryz.prog 9 (plainElem (H := Unit) Tryz.prog 4) w.heap.size n D ∧ SeenD D (cs.map Kid.key) ∧ n ≤ cs.length) ∧
      Hid (cs.length ≤ q ∧ q ≤ ts.length ∧ kq ≤ f ∧ comb (cs.map Kid.mem) (pM s ts kq deep (cs.map Kid.key) q) = r ∧ w.heap.size + 1 ≤ wr.heap.size))
    case atStart => exact ⟨p1, [], .map [], 0, hW2.out.ps, hg2, Lib.hid (Kids.nil _ _ _ _ _), Lib.hid ⟨hm2.out, SeenD.nil, Nat.le_refl _⟩, Lib.hid ⟨Nat.zero_le _, hp1le, Nat.le_refl _, by rw [hr1.out]; exact comb_nil _, by have := hm2.out.lt; omega⟩⟩
    case round =>
      obtain ⟨q, cs, D, n, hps, hg, hKs, hM, H⟩ := hrel
      clear hne hne'
      have hpo := Lib.hid (hW.out.step hg.out hps H.out.2.1)
      have hgs := hg.out.size
      have hgo := H.out.2.2.2.1
      cases gk with
      | zero => exact absurd (hgo.symm.trans (by rw [pM]; rfl)) hout.out
      | succ f1 =>
        rw [pM] at hgo
        by_cases k5 : kindT ts q = 5
        · rw [if_pos k5] at hgo
          have TK := Lib.hid (fun w (h : PsW A B base s v ts q b w) => h.take_ok k5 (by decide))
          have hql := kindT_lt (ts := ts) (p := q) (by omega)
          replace k5 := Lib.hid k5
          replace hgo := Lib.hid hgo
          (go_wp2_with fail; repeat (any_goals (go_quiet (fail); go_wp2_with fail)))
          refine (TK.out _ hpo.out).mono ?_
          rintro e w3 ⟨⟨T3, hT3, rfl⟩, hP3, hg3⟩
          rw [textT_eq hT3, placeT_eq (s := s) hT3] at hgo
          have htl := htx.out T3 (List.mem_of_getElem? hT3)
          unfold tkV
          have hK3 := hKs.out.grown hg3 (by omega)
          have hlv3 : Hid (∀ k, u5.ownBlock = some k → k < w3.heap.size) := Lib.hid (fun k e => (hK3.own.lt k e).2)
          have hM3 := hM.out.1.kept hg3 (fun e => by cases e; omega)
          have hg4 := grown_trans hg.out hg3
          have hz3 := hg3.size
          clear TK hKs hps hpo
          replace hT3 := Lib.hid hT3
          replace hK3 := Lib.hid hK3
          replace hM3 := Lib.hid hM3
          replace hP3 := Lib.hid hP3
          replace hg4 := Lib.hid hg4
          replace hg3 := Lib.hid hg3
          have hkey := Go.WideMaps.keyOf_string_mk Tryz.underlying9 htl
          have hat := hM.out.2.1.at_ T3.text
          have x6 := hP3.out.env.e6
          have l6 := hP3.out.env.l6
          cases hkn : knows (cs.map Kid.key) T3.text with
          | true =>
            rw [hkn] at hat hgo
            rw [if_pos rfl] at hgo
            replace hgo := Lib.hid hgo
            replace hkn := Lib.hid hkn
            replace hat := Lib.hid hat
            have F := Lib.hid (fun w => fail_calls A 6 T3.fr w)
            go_wp2_with (at_lookup; refine lookup_bool _ rfl _ _ 166 rfl 9 4 (Go.Maps.string_keyed Tryz.underlying9) Tryz.underlying166 Tryz.underlying4 (by kernel_rfl) w.heap.size n D rfl (hM3.out.alloc _) _ (keyL T3.text) rfl hkey true hat.out ?_)
            refine (F.out _).mono ?_
            rintro e w6 ⟨⟨g, hgg, rfl, hat6⟩, hb⟩
            refine ⟨rfl, ?_⟩
            show PostM A s v b w r _ w6
            rw [← hgo.out]
            exact ⟨grown_belowR (grown_trans hg4.out (World.grownBy_alloc _ _ _)) hb, g, by simp at hgg; omega, rfl, hat6⟩
          | false =>
            rw [hkn] at hat hgo
            rw [if_neg Bool.false_ne_true] at hgo
            replace hgo := Lib.hid hgo
            replace hkn := Lib.hid hkn
            replace hat := Lib.hid hat
            go_wp2_with (first | (at_lookup; refine lookup_bool _ rfl _ _ 166 rfl 9 4 (Go.Maps.string_keyed Tryz.underlying9) Tryz.underlying166 Tryz.underlying4 (by kernel_rfl) w.heap.size n D rfl (hM3.out.alloc _) _ (keyL T3.text) rfl hkey false hat.out ?_) | (at_mapUpdate; refine wpList_mapUpdate_own _ rfl _ _ _ 166 rfl 9 4 (Go.Maps.string_keyed Tryz.underlying9) Tryz.underlying166 (plainElem (H := Unit) Tryz.prog 4) w.heap.size n D rfl (hM3.out.alloc _) (by have := hM.out.2.2; have := H.out.1; have := hl.out; unfold maxLen; omega) _ _ (keyL T3.text) rfl rfl hkey (.lit (.bool true)) [] (plainElem_bool Tryz.underlying4 true) ?_))
            intro w4 hM4 hg5
            have hbm : b ≠ w.heap.size := by omega
            have hps4 : PsB s v (q + 1) b w4 := PsB.row (hP3.out.ps.next ((Below.refl w3.heap.size w3).alloc (Nat.le_refl _) _)) hg5 (fun e => by cases e; omega)
            have hg6 : w.grownBy w4 (some b) := grown_own (grown_trans hg4.out (World.grownBy_alloc _ _ _)) hg5 (fun g e => by cases e; omega)
            have hK4 := (hK3.out.alloc (.cells #[.int .i64 (T3.kind : Int), .int .i64 (T3.fr : Int), .int .i64 (T3.to : Int), .string T3.text] 59 (0, 0))).grown hg5 (by omega)
            have hP4 := hW.out.step hg6 hps4 hql
            have hmz := H.out.2.2.2.2
            have t4 : w4.heap[w3.heap.size]? = some (.cells #[.int .i64 (T3.kind : Int), .int .i64 (T3.fr : Int), .int .i64 (T3.to : Int), .string T3.text] 59 (0, 0)) := by
              rw [hg5.block _ (by simp) (fun e => by have := Option.some.inj e; omega)]
              exact heap_alloc_new w3 _
            have hz4 := hg5.size
            have hz4' : w3.heap.size + 1 ≤ w4.heap.size := by simpa using hz4
            have hS4 := hM.out.2.1.put T3.text
            clear hg5 hps4 hK3 hM3 hP3 hg4 hg3 hz4 x6 l6 hat hkey
            replace hM4 := Lib.hid hM4
            replace hS4 := Lib.hid hS4
            replace hg6 := Lib.hid hg6
            replace hK4 := Lib.hid hK4
            replace hP4 := Lib.hid hP4
            replace t4 := Lib.hid t4
            by_cases k10 : kindT ts (q + 1) = 10
            · have hgo := hgo.out
              rw [if_pos k10] at hgo
              have TK := Lib.hid (fun w (h : PsW A B base s v ts (q + 1) b w) => h.take_ok k10 (by decide))
              have hql2 := kindT_lt (ts := ts) (p := q + 1) (by omega)
              replace k10 := Lib.hid k10
              replace hgo := Lib.hid hgo
              go_wp2_with fail
              refine (TK.out _ hP4.out).mono ?_
              rintro e w5 ⟨⟨T5, hT5, rfl⟩, hP5, hg7⟩
              replace hT5 := Lib.hid hT5
              unfold tkV
              have t5 : w5.heap[w3.heap.size]? = some (.cells #[.int .i64 (T3.kind : Int), .int .i64 (T3.fr : Int), .int .i64 (T3.to : Int), .string T3.text] 59 (0, 0)) := by
                rw [hg7.block _ (by omega) (fun e => by have := Option.some.inj e; omega)]
                exact t4.out
              have y1 : w5.cell? ⟨w3.heap.size, 1, none⟩ = some (.int .i64 (T3.fr : Int)) := cellB t5 1 rfl
              have y3 : w5.cell? ⟨w3.heap.size, 3, none⟩ = some (.string T3.text) := cellB t5 3 rfl
              have hK5 := hK4.out.grown hg7 (by omega)
              have hM5 := hM4.out.kept hg7 (fun e => by have := Option.some.inj e; omega)
              have hg8 := grown_trans hg6.out hg7
              have hz5 := hg7.size
              clear hg7 t4 hK4 hM4 hg6 TK
              replace hK5 := Lib.hid hK5
              replace hM5 := Lib.hid hM5
              replace hg8 := Lib.hid hg8
              replace hP5 := Lib.hid hP5
              replace t5 := Lib.hid t5
              have hVf := hV.out f1 (by have := H.out.2.2.1; omega)
              have hgo2 := hgo.out
              have hnv : pV s ts f1 (deep + 1) (q + 2) ≠ .out := by
                intro h
                rw [h] at hgo2
                exact hout.out hgo2.symm
              have V := Lib.hid (fun w' (h : PsW A B base s v ts (q + 2) b w') => hVf (deep + 1) (q + 2) b w' hnv (by omega) h)
              have hd1 : ((deep + 1 : Nat) : Int) = (deep : Int) + 1 := by omega
              rw [hd1] at V
              have fit := (p_goes s ts f1).1 (deep + 1) (q + 2)
              clear hgo
              generalize hR : pV s ts f1 (deep + 1) (q + 2) = R at *
              replace hR := Lib.hid hR
              cases R with
              | out => exact absurd rfl hnv
              | err k pl =>
                replace hgo2 := Lib.hid hgo2
                go_wp2_with fail
                refine wp_region_any (by kernel_rfl) ?_
                try (change wpAny _ _ _ _ _ _ _ (World.drew _))
                (refine wpAny_take (i := 0) (v := ?_) rfl (by kernel_rfl) (by kernel_rfl) (by kernel_rfl) (fun _ _ _ h => h) (Or.inl ⟨by rfl, ?_⟩) ?_; rotate_left; (intro w; go_simp; try with_reducible rfl))
                (refine wpAny_take (i := 1) (v := ?_) rfl (by kernel_rfl) (by kernel_rfl) (by kernel_rfl) (fun _ _ _ h => h) (Or.inl ⟨by rfl, ?_⟩) ?_; rotate_left; (intro w; go_simp; try with_reducible rfl))
                (refine wpAny_take (i := 3) (v := ?_) rfl (by kernel_rfl) (by kernel_rfl) (by kernel_rfl) (fun _ _ _ h => h) (Or.inl ⟨by rfl, ?_⟩) ?_; rotate_left; (intro w; go_simp; try with_reducible rfl))
                (refine wpAny_take (i := 5) (v := ?_) rfl (by kernel_rfl) (by kernel_rfl) (by kernel_rfl) (fun _ _ _ h => h) (Or.inl ⟨by rfl, ?_⟩) ?_; rotate_left; (intro w; go_simp; try with_reducible rfl))
                (refine wpAny_take (i := 6) (v := ?_) rfl (by kernel_rfl) (by kernel_rfl) (by kernel_rfl) (fun _ _ _ h => h) (Or.inl ⟨by rfl, ?_⟩) ?_; rotate_left; (intro w; go_simp; try with_reducible rfl))
                (refine wpAny_take (i := 7) (v := ?_) rfl (by kernel_rfl) (by kernel_rfl) (by kernel_rfl) (fun _ _ _ h => h) (Or.inl ⟨by rfl, ?_⟩) ?_; rotate_left; (intro w; go_simp; try with_reducible rfl))
                (refine wpAny_ready (rs := [2, 4, 8]) (by kernel_rfl) (by simp) ?_)
                refine AllReady.cons rfl (fun K hK => ?_) (AllReady.cons rfl (fun K hK => ?_) (AllReady.cons rfl (fun K hK => ?_) AllReady.nil))
                all_goals go_simp
                · refine hK _ _ ?_
                  clear hK K
                  (refine wpAny_ready (rs := [4, 8]) (by kernel_rfl) (by simp) ?_)
                  refine AllReady.cons rfl (fun K hK => ?_) (AllReady.cons rfl (fun K hK => ?_) AllReady.nil)
                  all_goals go_simp
                  · refine hK _ _ ?_
                    clear hK K
                    (refine wpAny_ready (rs := [8]) (by kernel_rfl) (by simp) ?_; refine AllReady.cons rfl (fun K hK => ?_) AllReady.nil; go_simp)
                    simp only [wrap_deep hd]
                    refine (V.out _ (hP5.out.next (by repeat (first | assumption | exact Below.refl _ _ | apply Below.drew | apply below_drewN | apply balloc | (refine Below.setCell ?_ (by first | omega | (simp <;> omega)) _))))).mono ?_
                    rintro e w6 ⟨hg9, g, hgg, rfl, hat⟩
                    refine ⟨rfl, ?_⟩
                    show PostM A s v b w r _ w6
                    rw [← hgo2.out]
                    exact ⟨grown_trans (grown_drew hg8.out) hg9, g, Nat.le_trans hg8.out.size hgg, rfl, hat⟩
                  · skip
                    simp only [wrap_deep hd]
                    refine (V.out _ (hP5.out.next (by repeat (first | assumption | exact Below.refl _ _ | apply Below.drew | apply below_drewN | apply balloc | (refine Below.setCell ?_ (by first | omega | (simp <;> omega)) _))))).mono ?_
                    rintro e w6 ⟨hg9, g, hgg, rfl, hat⟩
                    refine ⟨rfl, ?_⟩
                    show PostM A s v b w r _ w6
                    rw [← hgo2.out]
                    exact ⟨grown_trans (grown_drew hg8.out) hg9, g, Nat.le_trans hg8.out.size hgg, rfl, hat⟩
                · refine hK _ _ ?_
                  clear hK K
                  (refine wpAny_ready (rs := [2, 8]) (by kernel_rfl) (by simp) ?_)
                  refine AllReady.cons rfl (fun K hK => ?_) (AllReady.cons rfl (fun K hK => ?_) AllReady.nil)
                  all_goals go_simp
                  · refine hK _ _ ?_
                    clear hK K
                    (refine wpAny_ready (rs := [8]) (by kernel_rfl) (by simp) ?_; refine AllReady.cons rfl (fun K hK => ?_) AllReady.nil; go_simp)
                    simp only [wrap_deep hd]
                    refine (V.out _ (hP5.out.next (by repeat (first | assumption | exact Below.refl _ _ | apply Below.drew | apply below_drewN | apply balloc | (refine Below.setCell ?_ (by first | omega | (simp <;> omega)) _))))).mono ?_
                    rintro e w6 ⟨hg9, g, hgg, rfl, hat⟩
                    refine ⟨rfl, ?_⟩
                    show PostM A s v b w r _ w6
                    rw [← hgo2.out]
                    exact ⟨grown_trans (grown_drew hg8.out) hg9, g, Nat.le_trans hg8.out.size hgg, rfl, hat⟩
                  · skip
                    simp only [wrap_deep hd]
                    refine (V.out _ (hP5.out.next (by repeat (first | assumption | exact Below.refl _ _ | apply Below.drew | apply below_drewN | apply balloc | (refine Below.setCell ?_ (by first | omega | (simp <;> omega)) _))))).mono ?_
                    rintro e w6 ⟨hg9, g, hgg, rfl, hat⟩
                    refine ⟨rfl, ?_⟩
                    show PostM A s v b w r _ w6
                    rw [← hgo2.out]
                    exact ⟨grown_trans (grown_drew hg8.out) hg9, g, Nat.le_trans hg8.out.size hgg, rfl, hat⟩
                · skip
                  simp only [wrap_deep hd]
                  refine (V.out _ (hP5.out.next (by repeat (first | assumption | exact Below.refl _ _ | apply Below.drew | apply below_drewN | apply balloc | (refine Below.setCell ?_ (by first | omega | (simp <;> omega)) _))))).mono ?_
                  rintro e w6 ⟨hg9, g, hgg, rfl, hat⟩
                  refine ⟨rfl, ?_⟩
                  show PostM A s v b w r _ w6
                  rw [← hgo2.out]
                  exact ⟨grown_trans (grown_drew hg8.out) hg9, g, Nat.le_trans hg8.out.size hgg, rfl, hat⟩
              | ok x q1 =>
                have hfit : q + 2 < q1 ∧ q1 ≤ ts.length := fit
                replace hgo2 := Lib.hid hgo2
                have hTH : TokHeld w3.heap.size T3 w5 := t5.out
                have hTb : w3.heap.size ≠ b := by omega
                have hle : Hid (∀ c ∈ cs, c.h ≤ w5.heap.size) := Lib.hid (fun c hm => (hK5.out.fit c hm).2.2.1)
                have hlv : Hid (∀ k, u5.ownBlock = some k → k < w5.heap.size) := Lib.hid (fun k e => (hK5.out.own.lt k e).2)
                have hbn : b < w.heap.size + 1 := by omega
                have hn5 : w.heap.size + 1 ≤ w5.heap.size := by omega
                clear t5 y1 y3
                go_wp2_with fail
                go_region_held3 (fun w' => w'.cell? ⟨w3.heap.size, 1, none⟩ = some (.int .i64 (T3.fr : Int)) ∧ w'.cell? ⟨w3.heap.size, 3, none⟩ = some (.string T3.text) ∧ TokHeld w3.heap.size T3 w') (first | exact TokHeld.cells ‹_› | exact TokHeld.cells (TokHeld.alloc ‹_› _) | exact TokHeld.cells hTH.drew) (first | (go_at_call 31; simp only [wrap_deep hd]; refine (V.out _ (hP5.out.next (by repeat (first | assumption | exact Below.refl _ _ | apply Below.drew | apply below_drewN | apply balloc | (refine Below.setCell ?_ (by first | omega | (simp <;> omega)) _))))).mono ?_; rintro e w6 ⟨hg9, u, rfl, hN, hps6⟩; obtain ⟨ut, ua, rfl⟩ := hN.form; have hTH6 := TokHeld.grown hTH.drew hg9 hTb; have hK6 := Lib.hid (hK5.out.drew.grown hg9 hbn); have hz6 := hg9.size; replace hg9 := Lib.hid hg9; replace hN := Lib.hid hN; replace hps6 := Lib.hid hps6) | (refine step_app_kid rfl _ _ 99 103 3 40 memC (.agg #[.string ⟨#[]⟩, .int .i64 0, .nilIface]) infoMem rfl (by decide) (by decide) (fun _ => rfl) Tryz.underlying99 rfl (w.heap.size + 1) w5.heap.size u5 cs rfl (hK6.out.alloc _) w6.heap.size 1 ⟨T3.text, T3.fr, w5.heap.size, w6.heap.size + 1, .iface ut ua, x⟩ #[.string T3.text, .int .i64 (T3.fr : Int), .iface ut ua] 103 rfl (heap_alloc_new w6 _) rfl (by have := H.out.1; have := H.out.2.1; have := hl.out; omega) hn5 (by have : w5.heap.size ≤ w6.heap.size := hz6; simp; omega) hle.out hlv.out rfl (by simp) ((hN.out.keep fun k _ h2 => Below.heap_alloc _ _ _ h2).wide (Nat.le_refl _) (by simp)) (by simp [memC, Value.oneCell']) ?_; intro v' w7 hK7 hg10; have hTH7 := TokHeld.row (TokHeld.alloc hTH6 (.cells #[.string T3.text, .int .i64 (T3.fr : Int), .iface ut ua] 103 (0, 0))) hg10 (fun e => by have := hlv3.out _ e; omega)))
                have hne5 : u5.ownBlock ≠ some b := fun e => by have := (hK6.out.own.lt b e).1; omega
                have hps7 : PsB s v q1 b w7 := PsB.row (hps6.out.next ((Below.refl w6.heap.size w6).alloc (Nat.le_refl _) _)) hg10 hne5
                have hg11 : w.grownBy w7 (some b) := grown_own (grown_trans (grown_trans (grown_drew hg8.out) hg9.out) (World.grownBy_alloc _ _ _)) hg10 (fun k e => by have := (hK6.out.own.lt k e).1; omega)
                have hM7 := (((hM5.out.kept (grown_drew (grown_refl w5 none)) (by simp)).kept hg9.out (fun e => by have := Option.some.inj e; omega)).alloc (.cells #[.string T3.text, .int .i64 (T3.fr : Int), .iface ut ua] 103 (0, 0))).kept hg10 (fun e => by have := (hK6.out.own.lt _ e.symm).1; omega)
                have hz7 := hg10.size
                have hz7' : w6.heap.size + 1 ≤ w7.heap.size := by simpa using hz7
                have hz56 : w5.heap.size ≤ w6.heap.size := hz6
                have hP7 := hW.out.step hg11 hps7 hfit.2
                clear hz6 hz7 hg10 hne5 hps7 hps6 hg9 hg8 hK6 hN hK5 hM5 hTH hTH6 hTH7 hP5 hle hlv hlv3 V
                replace hK7 := Lib.hid hK7
                replace hM7 := Lib.hid hM7
                replace hg11 := Lib.hid hg11
                have fitr := rest_fits s ts 7 q1 (by decide)
                have hgo3 := hgo2.out
                unfold rest at fitr hgo3
                have N := Lib.hid (fun w (h : PsW A B base s v ts q1 b w) => h.next_calls (k := kindT ts q1) rfl)
                by_cases k7 : kindT ts q1 = 7
                · rw [if_pos k7] at hgo3
                  rw [k7] at N
                  have hqb : (q1 : Int) ≤ 3518437208882 := by have := hl.out; omega
                  replace hP7 := Lib.hid hP7
                  (go_wp2_with fail; repeat (any_goals (go_quiet (fail); go_wp2_with fail)))
                  refine (N.out _ hP7.out).mono ?_
                  rintro e w8 ⟨rfl, hb⟩
                  have hP8 := hP7.out.next hb
                  have hg12 := grown_belowR hg11.out hb
                  have hK8 := hK7.out.below hb
                  clear hb
                  have x2 := hP8.ps.c2
                  have f2 := freeB hP8.ps 2
                  replace hP8 := Lib.hid hP8
                  replace hg12 := Lib.hid hg12
                  replace hK8 := Lib.hid hK8
                  (go_wp2_with fail; repeat (any_goals (go_quiet (fail); go_wp2_with fail)))
                  go_ret
                  refine ⟨grown_trans hg12.out (grown_set _ _ _ _), ?_⟩
                  rw [← hgo3]
                  exact ⟨v', _, rfl, (hK8.out.grown (grown_set _ _ _ _) hbn).low (Nat.le_succ _), by rw [List.map_append]; rfl, hP8.out.ps.inc⟩
                · rw [if_neg k7] at hgo3
                  have hne5 : ((kindT ts q1 : Int) == 7) = false := by simp; omega
                  have hne6 : ¬ (kindT ts q1 : Int) = 7 := by omega
                  by_cases k11 : kindT ts q1 = 11
                  · rw [if_pos k11] at hgo3
                    have TK := Lib.hid (fun w (h : PsW A B base s v ts q1 b w) => h.take_ok k11 (by decide))
                    have hql3 := kindT_lt (ts := ts) (p := q1) (by omega)
                    replace k11 := Lib.hid k11
                    generalize kindT ts q1 = K2 at *
                    replace hP7 := Lib.hid hP7
                    replace hgo3 := Lib.hid hgo3
                    (go_wp2_with fail; repeat (any_goals (go_quiet (fail); go_wp2_with fail)))
                    refine (N.out _ hP7.out).mono ?_
                    rintro e w8 ⟨rfl, hb⟩
                    have hP8 := hP7.out.next hb
                    have hg12 := grown_belowR hg11.out hb
                    have hK8 := hK7.out.below hb
                    have hM8 := hM7.out.kept (grown_of_below (r := none) hb) (by simp)
                    clear hb
                    replace hP8 := Lib.hid hP8
                    replace hg12 := Lib.hid hg12
                    replace hK8 := Lib.hid hK8
                    replace hM8 := Lib.hid hM8
                    (go_wp2_with fail; repeat (any_goals (go_quiet (fail); go_wp2_with fail)))
                    refine (TK.out _ hP8.out).mono ?_
                    rintro e w9 ⟨⟨T2, _, rfl⟩, hP9, hg13⟩
                    unfold tkV
                    have hK9 := hK8.out.grown hg13 hbn
                    have hM9 := hM8.out.kept hg13 (fun e => by have := Option.some.inj e; omega)
                    have hg14 := grown_trans hg12.out hg13
                    have hz9 := hM9.lt
                    replace hP9 := Lib.hid hP9
                    (go_wp2_with fail; repeat (any_goals (go_quiet (fail); go_wp2_with fail)))
                    go_roundg f1
                    case measure => omega
                    case rel =>
                      refine ⟨q1 + 1, cs ++ [_], _, n + 1, hP9.out.ps, Lib.hid hg14, Lib.hid hK9, Lib.hid ⟨hM9, ?_, ?_⟩, Lib.hid ⟨?_, hql3, by have := H.out.2.2.1; omega, ?_, by omega⟩⟩
                      · rw [List.map_append]
                        exact hS4.out
                      · rw [List.length_append, List.length_singleton]; have := hM.out.2.2; omega
                      · rw [List.length_append, List.length_singleton]; have := H.out.1; omega
                      · rw [← hgo3.out, List.map_append, List.map_append]
                        show comb (cs.map Kid.mem ++ [(T3.text, T3.fr, x)]) (pM s ts f1 deep (cs.map Kid.key ++ [T3.text]) (q1 + 1)) = comb (cs.map Kid.mem) _
                        cases pM s ts f1 deep (cs.map Kid.key ++ [T3.text]) (q1 + 1) with
                        | ok ys q => show PR.ok _ _ = PR.ok _ _; rw [List.append_assoc]; rfl
                        | err k pl => rfl
                        | out => rfl
                  · rw [if_neg k11] at hgo3
                    have TK := Lib.hid (fun w (h : PsW A B base s v ts q1 b w) => h.take_bad k11)
                    replace k11 := Lib.hid k11
                    generalize kindT ts q1 = K2 at *
                    replace hP7 := Lib.hid hP7
                    replace hgo3 := Lib.hid hgo3
                    (go_wp2_with fail; repeat (any_goals (go_quiet (fail); go_wp2_with fail)))
                    refine (N.out _ hP7.out).mono ?_
                    rintro e w8 ⟨rfl, hb⟩
                    have hP8 := hP7.out.next hb
                    have hg12 := grown_belowR hg11.out hb
                    clear hb
                    replace hP8 := Lib.hid hP8
                    replace hg12 := Lib.hid hg12
                    (go_wp2_with fail; repeat (any_goals (go_quiet (fail); go_wp2_with fail)))
                    refine (TK.out _ hP8.out).mono ?_
                    rintro e w9 ⟨⟨g, hgg, rfl, hat⟩, hb⟩
                    have hz := hg12.out.size
                    refine ⟨rfl, ?_⟩
                    show PostM A s v b w r _ w9
                    rw [← hgo3.out]
                    exact ⟨grown_belowR hg12.out hb, g, Nat.le_trans hz hgg, rfl, hat⟩
            · have hgo := hgo.out
              rw [if_neg k10] at hgo
              have TK := Lib.hid (fun w (h : PsW A B base s v ts (q + 1) b w) => h.take_bad k10)
              replace k10 := Lib.hid k10
              replace hgo := Lib.hid hgo
              go_wp2_with fail
              refine (TK.out _ hP4.out).mono ?_
              rintro e w6 ⟨⟨g, hgg, rfl, hat⟩, hb⟩
              refine ⟨rfl, ?_⟩
              show PostM A s v b w r _ w6
              rw [← hgo.out]
              exact ⟨grown_belowR hg6.out hb, g, by omega, rfl, hat⟩
        · rw [if_neg k5] at hgo
          have TK := Lib.hid (fun w (h : PsW A B base s v ts q b w) => h.take_bad k5)
          replace k5 := Lib.hid k5
          replace hgo := Lib.hid hgo
          (go_wp2_with fail; repeat (any_goals (go_quiet (fail); go_wp2_with fail)))
          refine (TK.out _ hpo.out).mono ?_
          rintro e w6 ⟨⟨g, hgg, rfl, hat⟩, hb⟩
          refine ⟨rfl, ?_⟩
          show PostM A s v b w r _ w6
          rw [← hgo.out]
          exact ⟨grown_belowR hg.out hb, g, Nat.le_trans hgs hgg, rfl, hat⟩

end Go.Proofs.YtibopkodoidjoaaGreatDoor

/- Package tree: the parser reads a value. -/
namespace Go.Proofs.YtibopkodoidjoaaGreatDoor
open Go Go.RowKit

/-- What is asked of the tokens. -/
structure TsOk (s : ByteArray) (ts : List Tk) : Prop where
  len : ts.length ≤ 3518437208882
  txt : ∀ T ∈ ts, T.text.size ≤ maxLen
  bd : ∀ T ∈ ts, T.fr ≤ T.to ∧ T.to ≤ s.size
  sz : s.size ≤ 3518437208882
@[go_sem] theorem field_tk (k n m : Int) (x : ByteArray) (w : World) : (Instr.field 59 (.agg #[.int .i64 k, .int .i64 n, .int .i64 m, .string x]) 3).run Tryz.prog w = .ok (.string x) w := by kernel_rfl
def WhHeld (g : Nat) (P : Nat) (w : World) : Prop := w.heap[g]? = some (.cells #[.int .i64 (P : Int)] 88 (0, 0))
theorem WhHeld.c0 {g P : Nat} {w : World} (h : WhHeld g P w) : w.cell? ⟨g, 0, none⟩ = some (.int .i64 (P : Int)) := cellB h 0 rfl
theorem WhHeld.cells {g P : Nat} {w : World} (h : WhHeld g P w) : w.cell? ⟨g, 0, none⟩ = some (.int .i64 (P : Int)) ∧ WhHeld g P w := ⟨cellB h 0 rfl, h⟩
theorem WhHeld.drew {g P : Nat} {w : World} (h : WhHeld g P w) : WhHeld g P w.drew := h
theorem WhHeld.grown {g b P : Nat} {w w' : World} (h : WhHeld g P w) (hg : w.grownBy w' (some b)) (hne : g ≠ b) : WhHeld g P w' := (hg.block g (ltB h) (fun e => hne (Option.some.inj e))).trans h
section
variable {A : Nat → Addr} {B base : Nat} {s : ByteArray} {v : Value} {ts : List Tk}
set_option maxHeartbeats 1000000 in
set_option maxRecDepth 100000 in
theorem value_null (deep p b : Nat) (w : World) (hW : PsW A B base s v ts p b w) (hO : TsOk s ts) (hk : kindT ts p = 1) (_hd : deep ≤ 64) :
    Calls Tryz.prog 31 #[.pointer (some ⟨b, 0, none⟩), .int .i64 (deep : Int)] w (PostV A s v b w (.ok (.null (placeT s ts p)) (p + 1))) := by
  have hbl := hW.lt
  have Pl := Lib.hid (fun w (h : PsW A B base s v ts p b w) => h.place_calls)
  have N := Lib.hid (fun w (h : PsW A B base s v ts p b w) => h.next_calls hk)
  have hple := hW.hp
  have hpb : (p : Int) ≤ 3518437208882 := by have := hO.len; omega
  replace hW := Lib.hid hW
  replace hO := Lib.hid hO
  obtain ⟨P, hP⟩ : ∃ P, P = placeT s ts p := ⟨_, rfl⟩
  rw [← hP] at Pl ⊢
  replace hP := Lib.hid hP
  go_enter Tryz.func31, Tryz.ntmps31
  (go_wp2_with fail; repeat (any_goals (go_quiet (fail); go_wp2_with fail)))
  refine (Pl.out _ (hW.out.next (by repeat (first | assumption | exact Below.refl _ _ | apply Below.drew | apply below_drewN | apply balloc | (refine Below.setCell ?_ (by first | omega | (simp <;> omega)) _))))).mono ?_
  rintro e w1 ⟨rfl, hb⟩
  have hb1 : Below w.heap.size w w1 := bcall (by repeat (first | assumption | exact Below.refl _ _ | apply Below.drew | apply below_drewN | apply balloc | (refine Below.setCell ?_ (by first | omega | (simp <;> omega)) _))) hb
  clear hb
  (go_wp2_with fail; repeat (any_goals (go_quiet (fail); go_wp2_with fail)))
  refine (N.out _ (hW.out.next (by repeat (first | assumption | exact Below.refl _ _ | apply Below.drew | apply below_drewN | apply balloc | (refine Below.setCell ?_ (by first | omega | (simp <;> omega)) _))))).mono ?_
  rintro e w2 ⟨rfl, hb⟩
  have hb2 : Below w.heap.size w w2 := bcall (by repeat (first | assumption | exact Below.refl _ _ | apply Below.drew | apply below_drewN | apply balloc | (refine Below.setCell ?_ (by first | omega | (simp <;> omega)) _))) hb
  have t2 : WhHeld w1.heap.size P w2 := boxed hb
  clear hb
  have hW2 := hW.out.next hb2
  have y0 := t2.c0
  have x2 := hW2.ps.c2
  have f2 := freeB hW2.ps 2
  have hz1 := hb1.size
  have hz2 := hb2.size
  have hb12 : w1.heap.size ≠ b := by omega
  replace hW2 := Lib.hid hW2
  clear N Pl
  (go_wp2_with fail; repeat (any_goals (go_quiet (fail); go_wp2_with fail)))
  go_ret
  exact ⟨grown_trans (grown_of_below hb2) (grown_set _ _ _ _), _, rfl, .null _ _ _, hW2.out.ps.inc⟩
set_option maxHeartbeats 1000000 in
set_option maxRecDepth 100000 in
theorem value_true (deep p b : Nat) (w : World) (hW : PsW A B base s v ts p b w) (hO : TsOk s ts) (hk : kindT ts p = 2) (_hd : deep ≤ 64) :
    Calls Tryz.prog 31 #[.pointer (some ⟨b, 0, none⟩), .int .i64 (deep : Int)] w (PostV A s v b w (.ok (.flag (placeT s ts p) true) (p + 1))) := by
  have hbl := hW.lt
  have Pl := Lib.hid (fun w (h : PsW A B base s v ts p b w) => h.place_calls)
  have N := Lib.hid (fun w (h : PsW A B base s v ts p b w) => h.next_calls hk)
  have hple := hW.hp
  have hpb : (p : Int) ≤ 3518437208882 := by have := hO.len; omega
  replace hW := Lib.hid hW
  replace hO := Lib.hid hO
  obtain ⟨P, hP⟩ : ∃ P, P = placeT s ts p := ⟨_, rfl⟩
  rw [← hP] at Pl ⊢
  replace hP := Lib.hid hP
  go_enter Tryz.func31, Tryz.ntmps31
  (go_wp2_with fail; repeat (any_goals (go_quiet (fail); go_wp2_with fail)))
  refine (Pl.out _ (hW.out.next (by repeat (first | assumption | exact Below.refl _ _ | apply Below.drew | apply below_drewN | apply balloc | (refine Below.setCell ?_ (by first | omega | (simp <;> omega)) _))))).mono ?_
  rintro e w1 ⟨rfl, hb⟩
  have hb1 : Below w.heap.size w w1 := bcall (by repeat (first | assumption | exact Below.refl _ _ | apply Below.drew | apply below_drewN | apply balloc | (refine Below.setCell ?_ (by first | omega | (simp <;> omega)) _))) hb
  clear hb
  (go_wp2_with fail; repeat (any_goals (go_quiet (fail); go_wp2_with fail)))
  refine (N.out _ (hW.out.next (by repeat (first | assumption | exact Below.refl _ _ | apply Below.drew | apply below_drewN | apply balloc | (refine Below.setCell ?_ (by first | omega | (simp <;> omega)) _))))).mono ?_
  rintro e w2 ⟨rfl, hb⟩
  have hb2 : Below w.heap.size w w2 := bcall (by repeat (first | assumption | exact Below.refl _ _ | apply Below.drew | apply below_drewN | apply balloc | (refine Below.setCell ?_ (by first | omega | (simp <;> omega)) _))) hb
  have t2 : WhHeld w1.heap.size P w2 := boxed hb
  clear hb
  have hW2 := hW.out.next hb2
  have y0 := t2.c0
  have x2 := hW2.ps.c2
  have f2 := freeB hW2.ps 2
  have hz1 := hb1.size
  have hz2 := hb2.size
  have hb12 : w1.heap.size ≠ b := by omega
  replace hW2 := Lib.hid hW2
  clear N Pl
  (go_wp2_with fail; repeat (any_goals (go_quiet (fail); go_wp2_with fail)))
  go_ret
  exact ⟨grown_trans (grown_of_below hb2) (grown_set _ _ _ _), _, rfl, .flag _ _ _ _, hW2.out.ps.inc⟩
set_option maxHeartbeats 1000000 in
set_option maxRecDepth 100000 in
theorem value_false (deep p b : Nat) (w : World) (hW : PsW A B base s v ts p b w) (hO : TsOk s ts) (hk : kindT ts p = 3) (_hd : deep ≤ 64) :
    Calls Tryz.prog 31 #[.pointer (some ⟨b, 0, none⟩), .int .i64 (deep : Int)] w (PostV A s v b w (.ok (.flag (placeT s ts p) false) (p + 1))) := by
  have hbl := hW.lt
  have Pl := Lib.hid (fun w (h : PsW A B base s v ts p b w) => h.place_calls)
  have N := Lib.hid (fun w (h : PsW A B base s v ts p b w) => h.next_calls hk)
  have hple := hW.hp
  have hpb : (p : Int) ≤ 3518437208882 := by have := hO.len; omega
  replace hW := Lib.hid hW
  replace hO := Lib.hid hO
  obtain ⟨P, hP⟩ : ∃ P, P = placeT s ts p := ⟨_, rfl⟩
  rw [← hP] at Pl ⊢
  replace hP := Lib.hid hP
  go_enter Tryz.func31, Tryz.ntmps31
  (go_wp2_with fail; repeat (any_goals (go_quiet (fail); go_wp2_with fail)))
  refine (Pl.out _ (hW.out.next (by repeat (first | assumption | exact Below.refl _ _ | apply Below.drew | apply below_drewN | apply balloc | (refine Below.setCell ?_ (by first | omega | (simp <;> omega)) _))))).mono ?_
  rintro e w1 ⟨rfl, hb⟩
  have hb1 : Below w.heap.size w w1 := bcall (by repeat (first | assumption | exact Below.refl _ _ | apply Below.drew | apply below_drewN | apply balloc | (refine Below.setCell ?_ (by first | omega | (simp <;> omega)) _))) hb
  clear hb
  (go_wp2_with fail; repeat (any_goals (go_quiet (fail); go_wp2_with fail)))
  refine (N.out _ (hW.out.next (by repeat (first | assumption | exact Below.refl _ _ | apply Below.drew | apply below_drewN | apply balloc | (refine Below.setCell ?_ (by first | omega | (simp <;> omega)) _))))).mono ?_
  rintro e w2 ⟨rfl, hb⟩
  have hb2 : Below w.heap.size w w2 := bcall (by repeat (first | assumption | exact Below.refl _ _ | apply Below.drew | apply below_drewN | apply balloc | (refine Below.setCell ?_ (by first | omega | (simp <;> omega)) _))) hb
  have t2 : WhHeld w1.heap.size P w2 := boxed hb
  clear hb
  have hW2 := hW.out.next hb2
  have y0 := t2.c0
  have x2 := hW2.ps.c2
  have f2 := freeB hW2.ps 2
  have hz1 := hb1.size
  have hz2 := hb2.size
  have hb12 : w1.heap.size ≠ b := by omega
  replace hW2 := Lib.hid hW2
  clear N Pl
  (go_wp2_with fail; repeat (any_goals (go_quiet (fail); go_wp2_with fail)))
  go_ret
  exact ⟨grown_trans (grown_of_below hb2) (grown_set _ _ _ _), _, rfl, .flag _ _ _ _, hW2.out.ps.inc⟩
set_option maxHeartbeats 1000000 in
set_option maxRecDepth 100000 in
theorem value_num (deep p b : Nat) (w : World) (hW : PsW A B base s v ts p b w) (hO : TsOk s ts) (hk : kindT ts p = 4) (_hd : deep ≤ 64) :
    Calls Tryz.prog 31 #[.pointer (some ⟨b, 0, none⟩), .int .i64 (deep : Int)] w (PostV A s v b w (.ok (.num (placeT s ts p) (wordT s ts p)) (p + 1))) := by
  have TK := Lib.hid (fun w (h : PsW A B base s v ts p b w) => h.take_ok hk (by decide))
  have hbl := hW.lt
  have Pl := Lib.hid (fun w (h : PsW A B base s v ts p b w) => h.place_calls)
  have N := Lib.hid (fun w (h : PsW A B base s v ts p b w) => h.next_calls hk)
  have hple := hW.hp
  have hpb : (p : Int) ≤ 3518437208882 := by have := hO.len; omega
  replace hW := Lib.hid hW
  replace hO := Lib.hid hO
  obtain ⟨P, hP⟩ : ∃ P, P = placeT s ts p := ⟨_, rfl⟩
  rw [← hP] at Pl ⊢
  replace hP := Lib.hid hP
  go_enter Tryz.func31, Tryz.ntmps31
  (go_wp2_with fail; repeat (any_goals (go_quiet (fail); go_wp2_with fail)))
  refine (Pl.out _ (hW.out.next (by repeat (first | assumption | exact Below.refl _ _ | apply Below.drew | apply below_drewN | apply balloc | (refine Below.setCell ?_ (by first | omega | (simp <;> omega)) _))))).mono ?_
  rintro e w1 ⟨rfl, hb⟩
  have hb1 : Below w.heap.size w w1 := bcall (by repeat (first | assumption | exact Below.refl _ _ | apply Below.drew | apply below_drewN | apply balloc | (refine Below.setCell ?_ (by first | omega | (simp <;> omega)) _))) hb
  clear hb
  (go_wp2_with fail; repeat (any_goals (go_quiet (fail); go_wp2_with fail)))
  refine (N.out _ (hW.out.next (by repeat (first | assumption | exact Below.refl _ _ | apply Below.drew | apply below_drewN | apply balloc | (refine Below.setCell ?_ (by first | omega | (simp <;> omega)) _))))).mono ?_
  rintro e w2 ⟨rfl, hb⟩
  have hb2 : Below w.heap.size w w2 := bcall (by repeat (first | assumption | exact Below.refl _ _ | apply Below.drew | apply below_drewN | apply balloc | (refine Below.setCell ?_ (by first | omega | (simp <;> omega)) _))) hb
  have t2 : WhHeld w1.heap.size P w2 := boxed hb
  clear hb
  have hW2 := hW.out.next hb2
  have y0 := t2.c0
  have x2 := hW2.ps.c2
  have f2 := freeB hW2.ps 2
  have hz1 := hb1.size
  have hz2 := hb2.size
  have hb12 : w1.heap.size ≠ b := by omega
  replace hW2 := Lib.hid hW2
  clear N Pl
  (go_wp2_with fail; repeat (any_goals (go_quiet (fail); go_wp2_with fail)))
  refine (TK.out _ (hW2.out.next (by repeat (first | assumption | exact Below.refl _ _ | apply Below.drew | apply below_drewN | apply balloc | (refine Below.setCell ?_ (by first | omega | (simp <;> omega)) _))))).mono ?_
  rintro e w3 ⟨⟨T, hT, rfl⟩, hW3, hg3⟩
  unfold tkV
  have hTb := hO.out.bd T (List.mem_of_getElem? hT)
  have hsz := hO.out.sz
  have b1 : (T.fr : Int) ≤ (T.to : Int) := by omega
  have b2 : (T.to : Int) ≤ (s.size : Int) := by omega
  have b3 : (s.size : Int) ≤ 3518437208882 := by omega
  have hw : wordT s ts p = s.extract T.fr T.to := by unfold wordT; rw [hT]
  have t3 := t2.grown hg3 hb12
  have z0 := t3.c0
  have z1 := hW3.ps.c0
  have hz3 := hg3.size
  have hlt := ltB t3
  have hb3 : b < w3.heap.size := by omega
  clear hTb hsz y0 x2 f2
  replace hW3 := Lib.hid hW3
  replace hT := Lib.hid hT
  replace hw := Lib.hid hw
  go_wp2_with fail
  go_quiet (fail)
  (go_wp2_with fail; repeat (any_goals (go_quiet (fail); go_wp2_with fail)))
  go_ret
  rw [hw.out]
  exact ⟨grown_drewN (grown_trans (grown_of_below hb2) (grown_trans hg3 (World.grownBy_alloc _ _ _))) _, .iface 94 (.agg #[.int .i64 (P : Int), .string (s.extract T.fr T.to)]), rfl, .num _ _ _ _, (hW3.out.next (below_drewN ((Below.refl _ _).alloc (Nat.le_refl _) _) _)).ps⟩
set_option maxHeartbeats 1000000 in
set_option maxRecDepth 100000 in
theorem value_text (deep p b : Nat) (w : World) (hW : PsW A B base s v ts p b w) (hO : TsOk s ts) (hk : kindT ts p = 5) (_hd : deep ≤ 64) :
    Calls Tryz.prog 31 #[.pointer (some ⟨b, 0, none⟩), .int .i64 (deep : Int)] w (PostV A s v b w (.ok (.text (placeT s ts p) (textT ts p)) (p + 1))) := by
  have TK := Lib.hid (fun w (h : PsW A B base s v ts p b w) => h.take_ok hk (by decide))
  have hbl := hW.lt
  have Pl := Lib.hid (fun w (h : PsW A B base s v ts p b w) => h.place_calls)
  have N := Lib.hid (fun w (h : PsW A B base s v ts p b w) => h.next_calls hk)
  have hple := hW.hp
  have hpb : (p : Int) ≤ 3518437208882 := by have := hO.len; omega
  replace hW := Lib.hid hW
  replace hO := Lib.hid hO
  obtain ⟨P, hP⟩ : ∃ P, P = placeT s ts p := ⟨_, rfl⟩
  rw [← hP] at Pl ⊢
  replace hP := Lib.hid hP
  go_enter Tryz.func31, Tryz.ntmps31
  (go_wp2_with fail; repeat (any_goals (go_quiet (fail); go_wp2_with fail)))
  refine (Pl.out _ (hW.out.next (by repeat (first | assumption | exact Below.refl _ _ | apply Below.drew | apply below_drewN | apply balloc | (refine Below.setCell ?_ (by first | omega | (simp <;> omega)) _))))).mono ?_
  rintro e w1 ⟨rfl, hb⟩
  have hb1 : Below w.heap.size w w1 := bcall (by repeat (first | assumption | exact Below.refl _ _ | apply Below.drew | apply below_drewN | apply balloc | (refine Below.setCell ?_ (by first | omega | (simp <;> omega)) _))) hb
  clear hb
  (go_wp2_with fail; repeat (any_goals (go_quiet (fail); go_wp2_with fail)))
  refine (N.out _ (hW.out.next (by repeat (first | assumption | exact Below.refl _ _ | apply Below.drew | apply below_drewN | apply balloc | (refine Below.setCell ?_ (by first | omega | (simp <;> omega)) _))))).mono ?_
  rintro e w2 ⟨rfl, hb⟩
  have hb2 : Below w.heap.size w w2 := bcall (by repeat (first | assumption | exact Below.refl _ _ | apply Below.drew | apply below_drewN | apply balloc | (refine Below.setCell ?_ (by first | omega | (simp <;> omega)) _))) hb
  have t2 : WhHeld w1.heap.size P w2 := boxed hb
  clear hb
  have hW2 := hW.out.next hb2
  have y0 := t2.c0
  have x2 := hW2.ps.c2
  have f2 := freeB hW2.ps 2
  have hz1 := hb1.size
  have hz2 := hb2.size
  have hb12 : w1.heap.size ≠ b := by omega
  replace hW2 := Lib.hid hW2
  clear N Pl
  clear y0 x2 f2
  go_wp2_with fail
  go_region_held3 (fun w' => w'.cell? ⟨w1.heap.size, 0, none⟩ = some (.int .i64 (P : Int)) ∧ WhHeld w1.heap.size P w') (first | exact WhHeld.cells ‹_› | exact WhHeld.cells t2.drew) ((go_at_call 58; refine (TK.out _ (hW2.out.next (by repeat (first | assumption | exact Below.refl _ _ | apply Below.drew | apply below_drewN | apply balloc | (refine Below.setCell ?_ (by first | omega | (simp <;> omega)) _))))).mono ?_; rintro e w3 ⟨⟨T, hT, rfl⟩, hW3, hg3⟩; unfold tkV; have hte := Lib.hid (textT_eq hT); have t3 := WhHeld.grown t2.drew hg3 hb12; replace hT := Lib.hid hT; replace hg3 := Lib.hid hg3; replace hW3 := Lib.hid hW3))
  (go_wp2_with fail; repeat (any_goals (go_quiet (fail); go_wp2_with fail)))
  go_ret
  rw [hte.out]
  exact ⟨grown_trans (grown_drew (grown_of_below hb2)) hg3.out, _, rfl, .text _ _ _ _, hW3.out.ps⟩
theorem kind_bad {k : Nat} (h1 : k ≠ 1) (h2 : k ≠ 2) (h3 : k ≠ 3) (h4 : k ≠ 4) (h5 : k ≠ 5) (h6 : k ≠ 6) (h8 : k ≠ 8) : ((k : Int) == 1) = false ∧ ((k : Int) == 2) = false ∧ ((k : Int) == 3) = false ∧ ((k : Int) == 4) = false ∧ ((k : Int) == 5) = false ∧ ((k : Int) == 6) = false ∧ ((k : Int) == 8) = false := by
  simp; omega
set_option maxHeartbeats 1000000 in
set_option maxRecDepth 100000 in
theorem value_none (deep p b : Nat) (w : World) (hW : PsW A B base s v ts p b w) (hO : TsOk s ts) (_hd : deep ≤ 64) (h1 : kindT ts p ≠ 1) (h2 : kindT ts p ≠ 2) (h3 : kindT ts p ≠ 3) (h4 : kindT ts p ≠ 4) (h5 : kindT ts p ≠ 5) (h6 : kindT ts p ≠ 6) (h8 : kindT ts p ≠ 8) :
    Calls Tryz.prog 31 #[.pointer (some ⟨b, 0, none⟩), .int .i64 (deep : Int)] w (PostV A s v b w (.err 2 (placeT s ts p))) := by
  obtain ⟨k1, k2, k3, k4, k5, k6, k8⟩ := kind_bad h1 h2 h3 h4 h5 h6 h8
  clear h1 h2 h3 h4 h5 h6 h8
  have hbl := hW.lt
  have Pl := Lib.hid (fun w (h : PsW A B base s v ts p b w) => h.place_calls)
  have N := Lib.hid (fun w (h : PsW A B base s v ts p b w) => h.next_calls rfl)
  have hple := hW.hp
  have hpb : (p : Int) ≤ 3518437208882 := by have := hO.len; omega
  replace hW := Lib.hid hW
  replace hO := Lib.hid hO
  obtain ⟨P, hP⟩ : ∃ P, P = placeT s ts p := ⟨_, rfl⟩
  rw [← hP] at Pl ⊢
  replace hP := Lib.hid hP
  go_enter Tryz.func31, Tryz.ntmps31
  (go_wp2_with fail; repeat (any_goals (go_quiet (fail); go_wp2_with fail)))
  refine (Pl.out _ (hW.out.next (by repeat (first | assumption | exact Below.refl _ _ | apply Below.drew | apply below_drewN | apply balloc | (refine Below.setCell ?_ (by first | omega | (simp <;> omega)) _))))).mono ?_
  rintro e w1 ⟨rfl, hb⟩
  have hb1 : Below w.heap.size w w1 := bcall (by repeat (first | assumption | exact Below.refl _ _ | apply Below.drew | apply below_drewN | apply balloc | (refine Below.setCell ?_ (by first | omega | (simp <;> omega)) _))) hb
  clear hb
  (go_wp2_with fail; repeat (any_goals (go_quiet (fail); go_wp2_with fail)))
  refine (N.out _ (hW.out.next (by repeat (first | assumption | exact Below.refl _ _ | apply Below.drew | apply below_drewN | apply balloc | (refine Below.setCell ?_ (by first | omega | (simp <;> omega)) _))))).mono ?_
  rintro e w2 ⟨rfl, hb⟩
  have hb2 : Below w.heap.size w w2 := bcall (by repeat (first | assumption | exact Below.refl _ _ | apply Below.drew | apply below_drewN | apply balloc | (refine Below.setCell ?_ (by first | omega | (simp <;> omega)) _))) hb
  have t2 : WhHeld w1.heap.size P w2 := boxed hb
  clear hb
  have hW2 := hW.out.next hb2
  have y0 := t2.c0
  have x2 := hW2.ps.c2
  have f2 := freeB hW2.ps 2
  have hz1 := hb1.size
  have hz2 := hb2.size
  have hb12 : w1.heap.size ≠ b := by omega
  replace hW2 := Lib.hid hW2
  clear N Pl
  generalize kindT ts p = K at *
  have F := Lib.hid (fun n w => fail_calls A 2 n w)
  have e2 := hW2.out.env.e2
  (go_wp2_with fail; repeat (any_goals (go_quiet (fail); go_wp2_with fail)))
  refine (F.out _ _).mono ?_
  rintro e w3 ⟨⟨g, hg, rfl, hat⟩, hb⟩
  exact ⟨rfl, grown_of_below (bcall hb2 hb), g, Nat.le_trans hz2 hg, rfl, hat⟩
end

end Go.Proofs.YtibopkodoidjoaaGreatDoor

/- Package tree: the parser reads a value that has items or members. -/
namespace Go.Proofs.YtibopkodoidjoaaGreatDoor
open Go Go.RowKit

theorem rowForm {w : World} {base : Nat} {e : TypeId} {size : Nat} {v : Value} {n : Nat} {xs : List Value} (h : w.ownsRow base e size v n xs) : ∃ a cap, v = .slice a n cap := by
  obtain ⟨_, ⟨rfl, h3⟩ | ⟨g, cap, cur, rfl, _⟩⟩ := h
  · exact ⟨none, 0, by rw [h3]⟩
  · exact ⟨_, _, rfl⟩
section
variable {A : Nat → Addr} {B base : Nat} {s : ByteArray} {v : Value} {ts : List Tk}
set_option maxHeartbeats 1000000 in
set_option maxRecDepth 100000 in
theorem value_deep8 (p b : Nat) (w : World) (hW : PsW A B base s v ts p b w) (hO : TsOk s ts) (hk : kindT ts p = 8) :
    Calls Tryz.prog 31 #[.pointer (some ⟨b, 0, none⟩), .int .i64 64] w (PostV A s v b w (.err 3 (placeT s ts p))) := by
  have hbl := hW.lt
  have Pl := Lib.hid (fun w (h : PsW A B base s v ts p b w) => h.place_calls)
  have N := Lib.hid (fun w (h : PsW A B base s v ts p b w) => h.next_calls hk)
  have hple := hW.hp
  have hpb : (p : Int) ≤ 3518437208882 := by have := hO.len; omega
  replace hW := Lib.hid hW
  replace hO := Lib.hid hO
  obtain ⟨P, hP⟩ : ∃ P, P = placeT s ts p := ⟨_, rfl⟩
  rw [← hP] at Pl ⊢
  replace hP := Lib.hid hP
  go_enter Tryz.func31, Tryz.ntmps31
  (go_wp2_with fail; repeat (any_goals (go_quiet (fail); go_wp2_with fail)))
  refine (Pl.out _ (hW.out.next (by repeat (first | assumption | exact Below.refl _ _ | apply Below.drew | apply below_drewN | apply balloc | (refine Below.setCell ?_ (by first | omega | (simp <;> omega)) _))))).mono ?_
  rintro e w1 ⟨rfl, hb⟩
  have hb1 : Below w.heap.size w w1 := bcall (by repeat (first | assumption | exact Below.refl _ _ | apply Below.drew | apply below_drewN | apply balloc | (refine Below.setCell ?_ (by first | omega | (simp <;> omega)) _))) hb
  clear hb
  (go_wp2_with fail; repeat (any_goals (go_quiet (fail); go_wp2_with fail)))
  refine (N.out _ (hW.out.next (by repeat (first | assumption | exact Below.refl _ _ | apply Below.drew | apply below_drewN | apply balloc | (refine Below.setCell ?_ (by first | omega | (simp <;> omega)) _))))).mono ?_
  rintro e w2 ⟨rfl, hb⟩
  have hb2 : Below w.heap.size w w2 := bcall (by repeat (first | assumption | exact Below.refl _ _ | apply Below.drew | apply below_drewN | apply balloc | (refine Below.setCell ?_ (by first | omega | (simp <;> omega)) _))) hb
  have t2 : WhHeld w1.heap.size P w2 := boxed hb
  clear hb
  have hW2 := hW.out.next hb2
  have y0 := t2.c0
  have x2 := hW2.ps.c2
  have f2 := freeB hW2.ps 2
  have hz1 := hb1.size
  have hz2 := hb2.size
  have hb12 : w1.heap.size ≠ b := by omega
  replace hW2 := Lib.hid hW2
  clear N Pl
  have F := Lib.hid (fun n w => fail_calls A 3 n w)
  have e3 := hW2.out.env.e3
  (go_wp2_with fail; repeat (any_goals (go_quiet (fail); go_wp2_with fail)))
  refine (F.out _ _).mono ?_
  rintro e w3 ⟨⟨g, hg, rfl, hat⟩, hb⟩
  exact ⟨rfl, grown_of_below (bcall hb2 hb), g, Nat.le_trans hz2 hg, rfl, hat⟩
set_option maxHeartbeats 1000000 in
set_option maxRecDepth 100000 in
theorem value_deep6 (p b : Nat) (w : World) (hW : PsW A B base s v ts p b w) (hO : TsOk s ts) (hk : kindT ts p = 6) :
    Calls Tryz.prog 31 #[.pointer (some ⟨b, 0, none⟩), .int .i64 64] w (PostV A s v b w (.err 3 (placeT s ts p))) := by
  have hbl := hW.lt
  have Pl := Lib.hid (fun w (h : PsW A B base s v ts p b w) => h.place_calls)
  have N := Lib.hid (fun w (h : PsW A B base s v ts p b w) => h.next_calls hk)
  have hple := hW.hp
  have hpb : (p : Int) ≤ 3518437208882 := by have := hO.len; omega
  replace hW := Lib.hid hW
  replace hO := Lib.hid hO
  obtain ⟨P, hP⟩ : ∃ P, P = placeT s ts p := ⟨_, rfl⟩
  rw [← hP] at Pl ⊢
  replace hP := Lib.hid hP
  go_enter Tryz.func31, Tryz.ntmps31
  (go_wp2_with fail; repeat (any_goals (go_quiet (fail); go_wp2_with fail)))
  refine (Pl.out _ (hW.out.next (by repeat (first | assumption | exact Below.refl _ _ | apply Below.drew | apply below_drewN | apply balloc | (refine Below.setCell ?_ (by first | omega | (simp <;> omega)) _))))).mono ?_
  rintro e w1 ⟨rfl, hb⟩
  have hb1 : Below w.heap.size w w1 := bcall (by repeat (first | assumption | exact Below.refl _ _ | apply Below.drew | apply below_drewN | apply balloc | (refine Below.setCell ?_ (by first | omega | (simp <;> omega)) _))) hb
  clear hb
  (go_wp2_with fail; repeat (any_goals (go_quiet (fail); go_wp2_with fail)))
  refine (N.out _ (hW.out.next (by repeat (first | assumption | exact Below.refl _ _ | apply Below.drew | apply below_drewN | apply balloc | (refine Below.setCell ?_ (by first | omega | (simp <;> omega)) _))))).mono ?_
  rintro e w2 ⟨rfl, hb⟩
  have hb2 : Below w.heap.size w w2 := bcall (by repeat (first | assumption | exact Below.refl _ _ | apply Below.drew | apply below_drewN | apply balloc | (refine Below.setCell ?_ (by first | omega | (simp <;> omega)) _))) hb
  have t2 : WhHeld w1.heap.size P w2 := boxed hb
  clear hb
  have hW2 := hW.out.next hb2
  have y0 := t2.c0
  have x2 := hW2.ps.c2
  have f2 := freeB hW2.ps 2
  have hz1 := hb1.size
  have hz2 := hb2.size
  have hb12 : w1.heap.size ≠ b := by omega
  replace hW2 := Lib.hid hW2
  clear N Pl
  have F := Lib.hid (fun n w => fail_calls A 3 n w)
  have e3 := hW2.out.env.e3
  (go_wp2_with fail; repeat (any_goals (go_quiet (fail); go_wp2_with fail)))
  refine (F.out _ _).mono ?_
  rintro e w3 ⟨⟨g, hg, rfl, hat⟩, hb⟩
  exact ⟨rfl, grown_of_below (bcall hb2 hb), g, Nat.le_trans hz2 hg, rfl, hat⟩
set_option maxHeartbeats 1000000 in
set_option maxRecDepth 100000 in
theorem value_items (f : Nat) (hV : ∀ f', f' < f → VC A B base s v ts f') (deep p b : Nat) (w : World) (hW : PsW A B base s v ts p b w) (hO : TsOk s ts) (hk : kindT ts p = 8) (hd : deep < 64) (r : PR (List Nd)) (hr : r = if kindT ts (p + 1) = 9 then .ok [] (p + 2) else pI s ts f deep (p + 1)) (hout : r ≠ .out) :
    Calls Tryz.prog 31 #[.pointer (some ⟨b, 0, none⟩), .int .i64 (deep : Int)] w (PostV A s v b w (match (generalizing := false) r with | .ok xs q => .ok (.lst (placeT s ts p) xs) q | .err k pl => .err k pl | .out => .out)) := by
  have C := Lib.hid (fun w (h : PsW A B base s v ts p b w) => items_calls f hV deep p b w h hk hd hO.len r hr hout)
  have hbl := hW.lt
  have Pl := Lib.hid (fun w (h : PsW A B base s v ts p b w) => h.place_calls)
  have N := Lib.hid (fun w (h : PsW A B base s v ts p b w) => h.next_calls hk)
  have hple := hW.hp
  have hpb : (p : Int) ≤ 3518437208882 := by have := hO.len; omega
  replace hW := Lib.hid hW
  replace hO := Lib.hid hO
  obtain ⟨P, hP⟩ : ∃ P, P = placeT s ts p := ⟨_, rfl⟩
  rw [← hP] at Pl ⊢
  replace hP := Lib.hid hP
  go_enter Tryz.func31, Tryz.ntmps31
  (go_wp2_with fail; repeat (any_goals (go_quiet (fail); go_wp2_with fail)))
  refine (Pl.out _ (hW.out.next (by repeat (first | assumption | exact Below.refl _ _ | apply Below.drew | apply below_drewN | apply balloc | (refine Below.setCell ?_ (by first | omega | (simp <;> omega)) _))))).mono ?_
  rintro e w1 ⟨rfl, hb⟩
  have hb1 : Below w.heap.size w w1 := bcall (by repeat (first | assumption | exact Below.refl _ _ | apply Below.drew | apply below_drewN | apply balloc | (refine Below.setCell ?_ (by first | omega | (simp <;> omega)) _))) hb
  clear hb
  (go_wp2_with fail; repeat (any_goals (go_quiet (fail); go_wp2_with fail)))
  refine (N.out _ (hW.out.next (by repeat (first | assumption | exact Below.refl _ _ | apply Below.drew | apply below_drewN | apply balloc | (refine Below.setCell ?_ (by first | omega | (simp <;> omega)) _))))).mono ?_
  rintro e w2 ⟨rfl, hb⟩
  have hb2 : Below w.heap.size w w2 := bcall (by repeat (first | assumption | exact Below.refl _ _ | apply Below.drew | apply below_drewN | apply balloc | (refine Below.setCell ?_ (by first | omega | (simp <;> omega)) _))) hb
  have t2 : WhHeld w1.heap.size P w2 := boxed hb
  clear hb
  have hW2 := hW.out.next hb2
  have y0 := t2.c0
  have x2 := hW2.ps.c2
  have f2 := freeB hW2.ps 2
  have hz1 := hb1.size
  have hz2 := hb2.size
  have hb12 : w1.heap.size ≠ b := by omega
  replace hW2 := Lib.hid hW2
  clear N Pl
  have hdd : ((deep : Int) == 64) = false := by simp; omega
  have hdd' : ¬ (deep : Int) = 64 := by omega
  clear y0 x2 f2
  replace hr := Lib.hid hr
  cases r with
  | out => exact absurd rfl hout
  | err k pl =>
    dsimp only
    go_wp2_with fail
    refine wp_region_any (by kernel_rfl) ?_
    try (change wpAny _ _ _ _ _ _ _ (World.drew _))
    (refine wpAny_take (i := 1) (v := ?_) rfl (by kernel_rfl) (by kernel_rfl) (by kernel_rfl) (fun _ _ _ h => h) (Or.inl ⟨by rfl, ?_⟩) ?_; rotate_left; (intro w; go_simp; try with_reducible rfl))
    (refine wpAny_take (i := 2) (v := ?_) rfl (by kernel_rfl) (by kernel_rfl) (by kernel_rfl) (fun _ _ _ h => h) (Or.inl ⟨by rfl, ?_⟩) ?_; rotate_left; (intro w; go_simp; try with_reducible rfl))
    have y0 := t2.drew.c0
    (refine wpAny_ready (rs := [0, 3]) (by kernel_rfl) (by simp) ?_)
    refine AllReady.cons rfl (fun K hK => ?_) (AllReady.cons rfl (fun K hK => ?_) AllReady.nil)
    all_goals go_simp
    · refine hK _ _ ?_
      clear hK K
      (refine wpAny_ready (rs := [3]) (by kernel_rfl) (by simp) ?_; refine AllReady.cons rfl (fun K hK => ?_) AllReady.nil; go_simp)
      refine (C.out _ (hW2.out.next (by repeat (first | assumption | exact Below.refl _ _ | apply Below.drew | apply below_drewN | apply balloc | (refine Below.setCell ?_ (by first | omega | (simp <;> omega)) _))))).mono ?_
      rintro e w3 ⟨hg3, g, hgg, rfl, hat⟩
      exact ⟨rfl, grown_trans (grown_drew (grown_of_below hb2)) hg3, g, Nat.le_trans hz2 hgg, rfl, hat⟩
    · skip
      refine (C.out _ (hW2.out.next (by repeat (first | assumption | exact Below.refl _ _ | apply Below.drew | apply below_drewN | apply balloc | (refine Below.setCell ?_ (by first | omega | (simp <;> omega)) _))))).mono ?_
      rintro e w3 ⟨hg3, g, hgg, rfl, hat⟩
      exact ⟨rfl, grown_trans (grown_drew (grown_of_below hb2)) hg3, g, Nat.le_trans hz2 hgg, rfl, hat⟩
  | ok xs q =>
    dsimp only
    go_wp2_with fail
    go_region_held3 (fun w' => w'.cell? ⟨w1.heap.size, 0, none⟩ = some (.int .i64 (P : Int)) ∧ WhHeld w1.heap.size P w') (first | exact WhHeld.cells ‹_› | exact WhHeld.cells t2.drew) ((go_at_call 59; refine (C.out _ (hW2.out.next (by repeat (first | assumption | exact Below.refl _ _ | apply Below.drew | apply below_drewN | apply balloc | (refine Below.setCell ?_ (by first | omega | (simp <;> omega)) _))))).mono ?_; rintro e w3 ⟨hg3, u, cs, rfl, hK3, hxs, hps3⟩; obtain ⟨ua, uc, rfl⟩ := rowForm hK3.own; have t3 := WhHeld.grown t2.drew hg3 hb12; replace hg3 := Lib.hid hg3; replace hK3 := Lib.hid hK3; replace hxs := Lib.hid hxs; replace hps3 := Lib.hid hps3))
    (go_wp2_with fail; repeat (any_goals (go_quiet (fail); go_wp2_with fail)))
    go_ret
    rw [← hxs.out]
    exact ⟨grown_trans (grown_drew (grown_of_below hb2)) hg3.out, _, rfl, hK3.out.lst.wide hz2 (Nat.le_refl _), hps3.out⟩
set_option maxHeartbeats 1000000 in
set_option maxRecDepth 100000 in
theorem value_members (f : Nat) (hV : ∀ f', f' < f → VC A B base s v ts f') (deep p b : Nat) (w : World) (hW : PsW A B base s v ts p b w) (hO : TsOk s ts) (hk : kindT ts p = 6) (hd : deep < 64) (r : PR (List (ByteArray × Nat × Nd))) (hr : r = if kindT ts (p + 1) = 7 then .ok [] (p + 2) else pM s ts f deep [] (p + 1)) (hout : r ≠ .out) :
    Calls Tryz.prog 31 #[.pointer (some ⟨b, 0, none⟩), .int .i64 (deep : Int)] w (PostV A s v b w (match (generalizing := false) r with | .ok xs q => .ok (.obj (placeT s ts p) xs) q | .err k pl => .err k pl | .out => .out)) := by
  have C := Lib.hid (fun w (h : PsW A B base s v ts p b w) => members_calls f hV deep p b w h hk hd hO.len hO.txt r hr hout)
  have hbl := hW.lt
  have Pl := Lib.hid (fun w (h : PsW A B base s v ts p b w) => h.place_calls)
  have N := Lib.hid (fun w (h : PsW A B base s v ts p b w) => h.next_calls hk)
  have hple := hW.hp
  have hpb : (p : Int) ≤ 3518437208882 := by have := hO.len; omega
  replace hW := Lib.hid hW
  replace hO := Lib.hid hO
  obtain ⟨P, hP⟩ : ∃ P, P = placeT s ts p := ⟨_, rfl⟩
  rw [← hP] at Pl ⊢
  replace hP := Lib.hid hP
  go_enter Tryz.func31, Tryz.ntmps31
  (go_wp2_with fail; repeat (any_goals (go_quiet (fail); go_wp2_with fail)))
  refine (Pl.out _ (hW.out.next (by repeat (first | assumption | exact Below.refl _ _ | apply Below.drew | apply below_drewN | apply balloc | (refine Below.setCell ?_ (by first | omega | (simp <;> omega)) _))))).mono ?_
  rintro e w1 ⟨rfl, hb⟩
  have hb1 : Below w.heap.size w w1 := bcall (by repeat (first | assumption | exact Below.refl _ _ | apply Below.drew | apply below_drewN | apply balloc | (refine Below.setCell ?_ (by first | omega | (simp <;> omega)) _))) hb
  clear hb
  (go_wp2_with fail; repeat (any_goals (go_quiet (fail); go_wp2_with fail)))
  refine (N.out _ (hW.out.next (by repeat (first | assumption | exact Below.refl _ _ | apply Below.drew | apply below_drewN | apply balloc | (refine Below.setCell ?_ (by first | omega | (simp <;> omega)) _))))).mono ?_
  rintro e w2 ⟨rfl, hb⟩
  have hb2 : Below w.heap.size w w2 := bcall (by repeat (first | assumption | exact Below.refl _ _ | apply Below.drew | apply below_drewN | apply balloc | (refine Below.setCell ?_ (by first | omega | (simp <;> omega)) _))) hb
  have t2 : WhHeld w1.heap.size P w2 := boxed hb
  clear hb
  have hW2 := hW.out.next hb2
  have y0 := t2.c0
  have x2 := hW2.ps.c2
  have f2 := freeB hW2.ps 2
  have hz1 := hb1.size
  have hz2 := hb2.size
  have hb12 : w1.heap.size ≠ b := by omega
  replace hW2 := Lib.hid hW2
  clear N Pl
  have hdd : ((deep : Int) == 64) = false := by simp; omega
  have hdd' : ¬ (deep : Int) = 64 := by omega
  clear y0 x2 f2
  replace hr := Lib.hid hr
  cases r with
  | out => exact absurd rfl hout
  | err k pl =>
    dsimp only
    go_wp2_with fail
    refine wp_region_any (by kernel_rfl) ?_
    try (change wpAny _ _ _ _ _ _ _ (World.drew _))
    (refine wpAny_take (i := 1) (v := ?_) rfl (by kernel_rfl) (by kernel_rfl) (by kernel_rfl) (fun _ _ _ h => h) (Or.inl ⟨by rfl, ?_⟩) ?_; rotate_left; (intro w; go_simp; try with_reducible rfl))
    (refine wpAny_take (i := 2) (v := ?_) rfl (by kernel_rfl) (by kernel_rfl) (by kernel_rfl) (fun _ _ _ h => h) (Or.inl ⟨by rfl, ?_⟩) ?_; rotate_left; (intro w; go_simp; try with_reducible rfl))
    have y0 := t2.drew.c0
    (refine wpAny_ready (rs := [0, 3]) (by kernel_rfl) (by simp) ?_)
    refine AllReady.cons rfl (fun K hK => ?_) (AllReady.cons rfl (fun K hK => ?_) AllReady.nil)
    all_goals go_simp
    · refine hK _ _ ?_
      clear hK K
      (refine wpAny_ready (rs := [3]) (by kernel_rfl) (by simp) ?_; refine AllReady.cons rfl (fun K hK => ?_) AllReady.nil; go_simp)
      refine (C.out _ (hW2.out.next (by repeat (first | assumption | exact Below.refl _ _ | apply Below.drew | apply below_drewN | apply balloc | (refine Below.setCell ?_ (by first | omega | (simp <;> omega)) _))))).mono ?_
      rintro e w3 ⟨hg3, g, hgg, rfl, hat⟩
      exact ⟨rfl, grown_trans (grown_drew (grown_of_below hb2)) hg3, g, Nat.le_trans hz2 hgg, rfl, hat⟩
    · skip
      refine (C.out _ (hW2.out.next (by repeat (first | assumption | exact Below.refl _ _ | apply Below.drew | apply below_drewN | apply balloc | (refine Below.setCell ?_ (by first | omega | (simp <;> omega)) _))))).mono ?_
      rintro e w3 ⟨hg3, g, hgg, rfl, hat⟩
      exact ⟨rfl, grown_trans (grown_drew (grown_of_below hb2)) hg3, g, Nat.le_trans hz2 hgg, rfl, hat⟩
  | ok xs q =>
    dsimp only
    go_wp2_with fail
    go_region_held3 (fun w' => w'.cell? ⟨w1.heap.size, 0, none⟩ = some (.int .i64 (P : Int)) ∧ WhHeld w1.heap.size P w') (first | exact WhHeld.cells ‹_› | exact WhHeld.cells t2.drew) ((go_at_call 60; refine (C.out _ (hW2.out.next (by repeat (first | assumption | exact Below.refl _ _ | apply Below.drew | apply below_drewN | apply balloc | (refine Below.setCell ?_ (by first | omega | (simp <;> omega)) _))))).mono ?_; rintro e w3 ⟨hg3, u, cs, rfl, hK3, hxs, hps3⟩; obtain ⟨ua, uc, rfl⟩ := rowForm hK3.own; have t3 := WhHeld.grown t2.drew hg3 hb12; replace hg3 := Lib.hid hg3; replace hK3 := Lib.hid hK3; replace hxs := Lib.hid hxs; replace hps3 := Lib.hid hps3))
    (go_wp2_with fail; repeat (any_goals (go_quiet (fail); go_wp2_with fail)))
    go_ret
    rw [← hxs.out]
    exact ⟨grown_trans (grown_drew (grown_of_below hb2)) hg3.out, _, rfl, hK3.out.obj.wide hz2 (Nat.le_refl _), hps3.out⟩
theorem value_step (hO : TsOk s ts) (f : Nat) (hV : ∀ f', f' < f → VC A B base s v ts f') : VC A B base s v ts f := by
  intro deep p b w hout hd hW
  cases f with
  | zero => rw [pV] at hout; exact absurd rfl hout
  | succ f =>
    have hV' : ∀ f', f' < f → VC A B base s v ts f' := fun f' h => hV f' (by omega)
    rw [pV] at hout ⊢
    by_cases k1 : kindT ts p = 1
    · rw [if_pos k1] at hout ⊢; exact value_null deep p b w hW hO k1 hd
    rw [if_neg k1] at hout ⊢
    by_cases k2 : kindT ts p = 2
    · rw [if_pos k2] at hout ⊢; exact value_true deep p b w hW hO k2 hd
    rw [if_neg k2] at hout ⊢
    by_cases k3 : kindT ts p = 3
    · rw [if_pos k3] at hout ⊢; exact value_false deep p b w hW hO k3 hd
    rw [if_neg k3] at hout ⊢
    by_cases k4 : kindT ts p = 4
    · rw [if_pos k4] at hout ⊢; exact value_num deep p b w hW hO k4 hd
    rw [if_neg k4] at hout ⊢
    by_cases k5 : kindT ts p = 5
    · rw [if_pos k5] at hout ⊢; exact value_text deep p b w hW hO k5 hd
    rw [if_neg k5] at hout ⊢
    by_cases k8 : kindT ts p = 8
    · rw [if_pos k8] at hout ⊢
      by_cases h64 : deep = 64
      · rw [if_pos h64] at hout ⊢; subst h64; exact value_deep8 p b w hW hO k8
      rw [if_neg h64] at hout ⊢
      refine value_items f hV' deep p b w hW hO k8 (by omega) _ rfl ?_
      intro h
      rw [h] at hout
      exact hout rfl
    rw [if_neg k8] at hout ⊢
    by_cases k6 : kindT ts p = 6
    · rw [if_pos k6] at hout ⊢
      by_cases h64 : deep = 64
      · rw [if_pos h64] at hout ⊢; subst h64; exact value_deep6 p b w hW hO k6
      rw [if_neg h64] at hout ⊢
      refine value_members f hV' deep p b w hW hO k6 (by omega) _ rfl ?_
      intro h
      rw [h] at hout
      exact hout rfl
    rw [if_neg k6] at hout ⊢
    exact value_none deep p b w hW hO hd k1 k2 k3 k4 k5 k6 k8
theorem value_calls (hO : TsOk s ts) (f : Nat) : VC A B base s v ts f := by
  induction f using Nat.strongRecOn with
  | ind f ih => exact value_step hO f ih
end

end Go.Proofs.YtibopkodoidjoaaGreatDoor

/- Package tree: Parse. -/
namespace Go.Proofs.YtibopkodoidjoaaGreatDoor
open Go Go.RowKit

@[go_sem] theorem as_wrong (v : Value) (w : World) : (Instr.typeAssert (.iface 71 v) 20 71 true).run Tryz.prog w = .ok (.tuple #[v, .bool true]) w := by kernel_rfl
set_option maxHeartbeats 1000000 in
/-- The closure that catches: the frame panics. -/
theorem catch_wrong (p q g : Nat) (x y : Value) (older : List PanicEntry) (w : World) (hp : w.heap[p]? = some (.cells #[x] 24 (0, 0))) (hq : w.heap[q]? = some (.cells #[y] 26 (0, 0))) (hpq : p ≠ q) :
    CallsD Tryz.prog 30 #[.pointer (some ⟨p, 0, none⟩), .pointer (some ⟨q, 0, none⟩)] (.panicking ({ v := .iface 71 (.agg #[.pointer (some ⟨g, 0, none⟩)]), recovered := false } :: older)) w fun e u' w' =>
      e = .returned (.tuple #[]) ∧ u' = .panicking ({ v := .iface 71 (.agg #[.pointer (some ⟨g, 0, none⟩)]), recovered := true } :: older) ∧
      w'.heap[p]? = some (.cells #[.nilIface] 24 (0, 0)) ∧ w'.heap[q]? = some (.cells #[.iface 69 (.pointer (some ⟨g, 0, none⟩))] 26 (0, 0)) ∧ w'.heap.size = w.heap.size + 1 ∧
      (∀ n, n ≤ p → n ≤ q → Below n w w') ∧ (∀ k, k < w.heap.size → k ≠ p → k ≠ q → w'.heap[k]? = w.heap[k]?) := by
  have hpl := ltB hp
  have hql := ltB hq
  refine callsD_of_wpS Tryz.func30 rfl fun c₀ cs hu => ?_
  apply wpS_seq
  apply wpS_region
  simp [wpOpsS, go_sem, recoverD, hu, Tryz.ntmps30, Exit.thenS]
  refine wpS_of_wp ?_
  generalize hCS : (_ :: cs : List Frame) = CS
  replace hCS := Lib.hid hCS
  have c1 := cellB hp 0 rfl
  have c2 := cellB hq 0 rfl
  have f1 := freeB hp 0
  have f2 := freeB hq 0
  have hne : p ≠ w.heap.size := by omega
  have hne2 : q ≠ w.heap.size := by omega
  replace hp := Lib.hid hp
  replace hq := Lib.hid hq
  simp only [show Array.replicate 16 undef = #[undef, undef, undef, undef, undef, undef, undef, undef, undef, undef, undef, undef, undef, undef, undef, undef] from rfl, List.setIfInBounds_toArray, List.set_cons_succ, List.set_cons_zero, List.append_toArray, List.cons_append, List.nil_append]
  go_wp2
  go_region
  go_wp2
  have h1 : (w.setCell ⟨p, 0, none⟩ .nilIface).heap[p]? = some (.cells #[.nilIface] 24 (0, 0)) := by rw [Lib.heap_setCell_same (i := 0) hp.out]; rfl
  have h2 : (w.setCell ⟨p, 0, none⟩ .nilIface).heap[q]? = some (.cells #[y] 26 (0, 0)) := by rw [Below.heap_setCell _ _ _ _ (Ne.symm hpq)]; exact hq.out
  obtain ⟨W1, hW1⟩ : ∃ W1, W1 = w.setCell ⟨p, 0, none⟩ .nilIface := ⟨_, rfl⟩
  obtain ⟨W2, hW2⟩ : ∃ W2, W2 = W1.setCell ⟨q, 0, none⟩ (.iface 69 (.pointer (some ⟨g, 0, none⟩))) := ⟨_, rfl⟩
  have hz : W2.heap.size = w.heap.size := by rw [hW2, hW1]; simp
  rw [← hW1] at h1 h2
  have h3 : W2.heap[p]? = some (.cells #[.nilIface] 24 (0, 0)) := by rw [hW2, Below.heap_setCell _ _ _ _ hpq]; exact h1
  have h4 : W2.heap[q]? = some (.cells #[.iface 69 (.pointer (some ⟨g, 0, none⟩))] 26 (0, 0)) := by rw [hW2, Lib.heap_setCell_same (i := 0) h2]; rfl
  have h5 : ∀ n, n ≤ p → n ≤ q → Below n w W2 := fun n a b => by rw [hW2, hW1]; exact ((Below.refl _ _).setCell a _).setCell b _
  have h6 : ∀ k, k < w.heap.size → k ≠ p → k ≠ q → W2.heap[k]? = w.heap[k]? := fun k _ a b => by rw [hW2, Below.heap_setCell _ _ _ _ b, hW1, Below.heap_setCell _ _ _ _ a]
  rw [← hW1, ← hW2]
  refine ⟨rfl, _, hCS.out.symm, .tuple #[], by simp [results, Tryz.results30, go_sem], rfl, rfl, ?_, ?_, ?_, ?_, ?_⟩
  · exact (Below.heap_alloc W2 _ _ (by omega)).trans h3
  · exact (Below.heap_alloc W2 _ _ (by omega)).trans h4
  · show (W2.alloc _).heap.size = _
    simp [hz]
  · intro n a b
    exact below_drewN ((h5 n a b).alloc (by omega) _) 1
  · intro k a b c
    exact (Below.heap_alloc W2 _ _ (by omega)).trans (h6 k a b c)
@[go_sem] theorem as_nowrong (w : World) : (Instr.typeAssert .nilIface 20 71 true).run Tryz.prog w = .ok (.tuple #[.agg #[.pointer none], .bool false]) w := by kernel_rfl
set_option maxHeartbeats 1000000 in
/-- The frame returns: there is nothing to catch. -/
theorem catch_none (p q : Nat) (w : World) :
    CallsD Tryz.prog 30 #[.pointer (some ⟨p, 0, none⟩), .pointer (some ⟨q, 0, none⟩)] .returning w fun e u' w' => e = .returned (.tuple #[]) ∧ u' = .returning ∧ Below w.heap.size w w' := by
  refine callsD_of_wpS Tryz.func30 rfl fun c₀ cs hu => ?_
  apply wpS_seq
  apply wpS_region
  simp [wpOpsS, go_sem, recoverD, hu, Tryz.ntmps30, Exit.thenS]
  refine wpS_of_wp ?_
  generalize hCS : (_ :: cs : List Frame) = CS
  replace hCS := Lib.hid hCS
  simp only [show Array.replicate 16 undef = #[undef, undef, undef, undef, undef, undef, undef, undef, undef, undef, undef, undef, undef, undef, undef, undef] from rfl, List.setIfInBounds_toArray, List.set_cons_succ, List.set_cons_zero, List.append_toArray, List.cons_append, List.nil_append]
  go_wp2
  refine ⟨rfl, .returning, ?_, .tuple #[], by simp [results, Tryz.results30, go_sem], rfl, rfl, (by repeat (first | assumption | exact Below.refl _ _ | apply Below.drew | apply below_drewN | apply balloc | (refine Below.setCell ?_ (by first | omega | (simp <;> omega)) _)))⟩
  rw [← hCS.out]
  congr 1
  cases c₀
  simp_all
theorem set_far (w : World) {b g : Nat} (i : Nat) (v : Value) (h : g ≠ b) : (w.setCell ⟨b, i, none⟩ v).heap[g]? = w.heap[g]? := Below.heap_setCell _ _ _ _ h
theorem heap_drew (w : World) : w.drew.heap = w.heap := rfl
/-- The parse of a text. -/
def parseS (s : ByteArray) : PR Nd := if (someS s).2.1 = 0 then pP s (someS s).1 else .err (someS s).2.1 (someS s).2.2
/-- What Parse answers. -/
def ParseR (A : Nat → Addr) (lo : Nat) (r : PR Nd) (e : Ending) (w' : World) : Prop := match r with
  | .ok x _ => ∃ u, e = .returned (.tuple #[u, .nilIface]) ∧ OwnN w' lo w'.heap.size u x
  | .err k pl => ∃ g, lo ≤ g ∧ e = .returned (.tuple #[.nilIface, .iface 69 (.pointer (some ⟨g, 0, none⟩))]) ∧ AtB (pl : Int) (.iface 237 (.pointer (some (A k)))) g w'
  | .out => False
theorem some_ok {s : ByteArray} (hs : s.size ≤ 3518437208882) (h : (someS s).2.1 = 0) : TsOk s (someS s).1 := by
  obtain ⟨hu, hch, _⟩ := some_chain h
  have hv0 := (utfE_brk s).1 hu
  have hbd := chain_bd _ 0 hv0 (Nat.zero_le _) hch
  have hlen := chain_len _ 0 hv0 (Nat.zero_le _) hch
  refine ⟨by omega, fun T hT => ?_, fun T hT => ?_, hs⟩
  · obtain ⟨h1, h2, h3, h4, h5, h6⟩ := hbd T hT
    have h7 := one_fr (by omega) h4 h6
    have := h7.2.2.2.2.1
    unfold maxLen
    omega
  · obtain ⟨h1, h2, h3, _⟩ := hbd T hT
    exact ⟨by omega, h3⟩
set_option maxHeartbeats 4000000 in
set_option maxRecDepth 100000 in
theorem Parse_err {A : Nat → Addr} {B : Nat} (s : ByteArray) (w : World) (hE : Env A B SVN w) (hs : s.size ≤ 3518437208882) (h0 : (someS s).2.1 ≠ 0) :
    Calls Tryz.prog 9 #[.string s] w fun e w' => ParseR A w.heap.size (.err (someS s).2.1 (someS s).2.2) e w' ∧ Below w.heap.size w w' := by
  have S := Lib.hid (fun w hE => Scan_calls (A := A) (B := B) s w hE (by omega))
  generalize hR : someS s = R at *
  replace hR := Lib.hid hR
  replace hE := Lib.hid hE
  have hmf : ∀ (fn : Fn) (first cap : Array Value) (w : World), (Instr.makeFunc fn first cap).run Tryz.prog w = .ok (.func fn first cap) w := fun _ _ _ _ => rfl
  go_enter_defers Tryz.func9, Tryz.ntmps9
  go_wp2_with fail
  refine (S.out _ ((hE.out.next (by repeat (first | assumption | exact Below.refl _ _ | apply Below.drew | apply below_drewN | apply balloc | (refine Below.setCell ?_ (by first | omega | (simp <;> omega)) _)))).sub (by decide))).mono ?_
  rintro e w1 ⟨hr, hb⟩
  unfold ScanR at hr
  rw [if_neg h0] at hr
  obtain ⟨g, hg, rfl, hat⟩ := hr
  have hb1 : Below w.heap.size w w1 := bcall (by repeat (first | assumption | exact Below.refl _ _ | apply Below.drew | apply below_drewN | apply balloc | (refine Below.setCell ?_ (by first | omega | (simp <;> omega)) _))) hb
  replace h0 := Lib.hid h0
  have hz := hb.size
  simp at hz
  have q1 : w1.heap[w.heap.size]? = some (.cells #[.nilIface] 24 (0, 0)) := by
    rw [hb.block _ (by simp; omega), Below.heap_alloc _ _ _ (by simp)]
    exact heap_alloc_new w _
  have q2 : w1.heap[w.heap.size + 1]? = some (.cells #[.nilIface] 26 (0, 0)) := by
    rw [hb.block _ (by simp)]
    have := heap_alloc_new (w.alloc (.cells #[.nilIface] 24 (0, 0))) (.cells #[.nilIface] 26 (0, 0))
    simpa using this
  have c1 : w1.cell? ⟨w.heap.size, 0, none⟩ = some .nilIface := cellB q1 0 rfl
  have c2 : w1.cell? ⟨w.heap.size + 1, 0, none⟩ = some .nilIface := cellB q2 0 rfl
  have f1 := freeB q1 0
  have f2 := freeB q2 0
  replace hat := Lib.hid hat
  replace q1 := Lib.hid q1
  replace q2 := Lib.hid q2
  clear hb
  go_wp2_with fail
  go_region
  go_wp2_with fail
  refine ⟨.tuple #[.nilIface, .iface 69 (.pointer (some ⟨g, 0, none⟩))], ?_, ⟨g, by simp at hg; omega, rfl, ?_⟩, ?_⟩
  · simp [results, Tryz.results9, go_sem, *]
  · simp at hg
    unfold AtB
    rw [heap_drew, set_far _ _ _ (show g ≠ w.heap.size + 1 by omega), set_far _ _ _ (show g ≠ w.heap.size by omega), set_far _ _ _ (show g ≠ w.heap.size + 1 by omega)]
    exact hat.out
  · exact (by repeat (first | assumption | exact Below.refl _ _ | apply Below.drew | apply below_drewN | apply balloc | (refine Below.setCell ?_ (by first | omega | (simp <;> omega)) _)))
set_option maxHeartbeats 4000000 in
set_option maxRecDepth 100000 in
theorem Parse_ok {A : Nat → Addr} {B : Nat} (s : ByteArray) (w : World) (hE : Env A B SVN w) (hs : s.size ≤ 3518437208882) (h0 : (someS s).2.1 = 0) :
    Calls Tryz.prog 9 #[.string s] w fun e w' => ParseR A w.heap.size (pP s (someS s).1) e w' ∧ Below w.heap.size w w' := by
  have S := Lib.hid (fun w hE => Scan_calls (A := A) (B := B) s w hE (by omega))
  have hO := some_ok hs h0
  have hfit := pV_fits s (someS s).1
  generalize hR : someS s = R at *
  replace hR := Lib.hid hR
  replace hE := Lib.hid hE
  have hBw := hE.out.hB
  have hmf : ∀ (fn : Fn) (first cap : Array Value) (w : World), (Instr.makeFunc fn first cap).run Tryz.prog w = .ok (.func fn first cap) w := fun _ _ _ _ => rfl
  generalize hts : R.1 = ts at *
  obtain ⟨PP, hPP⟩ : ∃ PP, PP = pP s ts := ⟨_, rfl⟩
  rw [← hPP]
  unfold pP at hPP
  generalize hRV : pV s ts (2 * ts.length + 1) 0 0 = RV at *
  replace hRV := Lib.hid hRV
  replace hPP := Lib.hid hPP
  go_enter_defers Tryz.func9, Tryz.ntmps9
  go_wp2_with fail
  refine (S.out _ ((hE.out.next (by repeat (first | assumption | exact Below.refl _ _ | apply Below.drew | apply below_drewN | apply balloc | (refine Below.setCell ?_ (by first | omega | (simp <;> omega)) _)))).sub (by decide))).mono ?_
  rintro e w1 ⟨hr, hb⟩
  unfold ScanR at hr
  rw [if_pos h0, hts] at hr
  replace hts := Lib.hid hts
  obtain ⟨v, rfl, hown⟩ := hr
  have hb1 : Below w.heap.size w w1 := bcall (by repeat (first | assumption | exact Below.refl _ _ | apply Below.drew | apply below_drewN | apply balloc | (refine Below.setCell ?_ (by first | omega | (simp <;> omega)) _))) hb
  replace h0 := Lib.hid h0
  have hz := hb.size
  simp at hz
  have q1 : w1.heap[w.heap.size]? = some (.cells #[.nilIface] 24 (0, 0)) := by
    rw [hb.block _ (by simp; omega), Below.heap_alloc _ _ _ (by simp)]
    exact heap_alloc_new w _
  have q2 : w1.heap[w.heap.size + 1]? = some (.cells #[.nilIface] 26 (0, 0)) := by
    rw [hb.block _ (by simp)]
    have := heap_alloc_new (w.alloc (.cells #[.nilIface] 24 (0, 0))) (.cells #[.nilIface] 26 (0, 0))
    simpa using this
  have hown1 : OwnT w1 (w.heap.size + 1 + 1) v ts := by unfold OwnT; simpa using hown
  obtain ⟨va, vc, rfl⟩ := hown1.form2
  have c1 : w1.cell? ⟨w.heap.size, 0, none⟩ = some .nilIface := cellB q1 0 rfl
  have c2 : w1.cell? ⟨w.heap.size + 1, 0, none⟩ = some .nilIface := cellB q2 0 rfl
  have f1 := freeB q1 0
  have f2 := freeB q2 0
  have hlen := hO.len
  have hl' : (ts.length : Int) ≤ 3518437208882 := by omega
  replace hown1 := Lib.hid hown1
  replace q1 := Lib.hid q1
  replace q2 := Lib.hid q2
  replace hO := Lib.hid hO
  replace hfit := Lib.hid hfit
  clear hb hown
  have hW : ∀ w2, w2 = (w1.setCell ⟨w.heap.size + 1, 0, none⟩ .nilIface).alloc (.cells #[.string s, .slice va ts.length vc, .int .i64 0] 75 (0, 0)) → PsW A B (w.heap.size + 1 + 1) s (.slice va ts.length vc) ts 0 w1.heap.size w2 := by
    rintro w2 rfl
    have hlt := fun k e => (World.ownsRow.lt hown1.out k e)
    refine ⟨hE.out.next (by repeat (first | assumption | exact Below.refl _ _ | apply Below.drew | apply below_drewN | apply balloc | (refine Below.setCell ?_ (by first | omega | (simp <;> omega)) _))), ?_, ?_, ?_, by omega, Nat.zero_le _⟩
    · have := heap_alloc_new (w1.setCell ⟨w.heap.size + 1, 0, none⟩ .nilIface) (.cells #[.string s, .slice va ts.length vc, .int .i64 0] 75 (0, 0))
      unfold PsB
      simpa using this
    · exact OwnT.next (OwnT.grown hown1.out (grown_set _ _ _ _) (fun h => by have := (hlt _ h).1; omega)) ((Below.refl _ _).alloc (Nat.le_refl _) _)
    · intro h
      have := (hlt _ h).2
      omega
  have V : Hid (∀ w2, PsW A B (w.heap.size + 1 + 1) s (.slice va ts.length vc) ts 0 w1.heap.size w2 → Calls Tryz.prog 31 #[.pointer (some ⟨w1.heap.size, 0, none⟩), .int .i64 0] w2 (PostV A s (.slice va ts.length vc) w1.heap.size w2 RV)) := Lib.hid (fun w2 h => by
    have := value_calls hO.out (2 * ts.length + 1) 0 0 w1.heap.size w2 (by rw [hRV.out]; intro h; have := hfit.out; rw [h] at this; exact this) (by decide) h
    rw [hRV.out] at this
    exact this)
  have hQ : ∀ w2, w2 = (w1.setCell ⟨w.heap.size + 1, 0, none⟩ .nilIface).alloc (.cells #[.string s, .slice va ts.length vc, .int .i64 0] 75 (0, 0)) → ∀ w3, w2.grownBy w3 (some w1.heap.size) →
      w3.heap[w.heap.size]? = some (.cells #[.nilIface] 24 (0, 0)) ∧ w3.heap[w.heap.size + 1]? = some (.cells #[.nilIface] 26 (0, 0)) ∧ Below w.heap.size w w3 ∧ w1.heap.size < w3.heap.size := by
    rintro w2 rfl w3 hg
    have hz2 := hg.size
    simp at hz2
    refine ⟨?_, ?_, ?_, by omega⟩
    · rw [hg.block _ (by simp; omega) (fun e => by have := Option.some.inj e; omega), Below.heap_alloc _ _ _ (by simp; omega), set_far _ _ _ (by omega)]
      exact q1.out
    · rw [hg.block _ (by simp; omega) (fun e => by have := Option.some.inj e; omega), Below.heap_alloc _ _ _ (by simp; omega), Lib.heap_setCell_same (i := 0) q2.out]
      rfl
    · exact Below.trans (show Below w.heap.size w _ from (by repeat (first | assumption | exact Below.refl _ _ | apply Below.drew | apply below_drewN | apply balloc | (refine Below.setCell ?_ (by first | omega | (simp <;> omega)) _)))) (grown_below hg (by simp; omega) (by omega))
  cases RV with
  | out => exact hfit.out.elim
  | err k pl =>
    go_wp2_with fail
    refine (V.out _ (hW _ rfl)).mono ?_
    rintro e w3 ⟨hg3, g, hgg, rfl, hat⟩
    obtain ⟨r1, r2, hb3, hz3⟩ := hQ _ rfl w3 hg3
    refine leaves_cons (f := 30) (args := #[.pointer (some ⟨w.heap.size, 0, none⟩), .pointer (some ⟨w.heap.size + 1, 0, none⟩)]) (by simp) (by simp [go_sem]) ?_
    refine (catch_wrong w.heap.size (w.heap.size + 1) g _ _ [] w3 r1 r2 (by omega)).mono ?_
    rintro e u' w4 ⟨rfl, rfl, p1, p2, hz4, hb4, hk4⟩
    have y1 := cellB p1 0 rfl
    have y2 := cellB p2 0 rfl
    have hgl := ltB hat
    simp at hgg
    have hPP' := hPP.out
    refine ⟨.tuple #[.nilIface, .iface 69 (.pointer (some ⟨g, 0, none⟩))], ?_, ?_, ?_⟩
    · simp [results, Tryz.results9, go_sem, y1, y2]
    · rw [hPP']
      exact ⟨g, by omega, rfl, (hk4 g hgl (by omega) (by omega)).trans hat⟩
    · exact hb3.trans (hb4 _ (Nat.le_refl _) (by omega))
  | ok x q =>
    go_wp2_with fail
    refine (V.out _ (hW _ rfl)).mono ?_
    rintro e w3 ⟨hg3, u, rfl, hN, hps3⟩
    obtain ⟨r1, r2, hb3, hz3⟩ := hQ _ rfl w3 hg3
    obtain ⟨ut, ua, rfl⟩ := hN.form
    have hfq : 0 < q ∧ q ≤ ts.length := hfit.out
    have hP3 := (hW _ rfl).step hg3 hps3 hfq.2
    have hP4 : Hid (PsW A B (w.heap.size + 1 + 1) s (.slice va ts.length vc) ts q w1.heap.size (w3.setCell ⟨w.heap.size, 0, none⟩ (.iface ut ua))) := Lib.hid (by
      have hlt := fun k e => (World.ownsRow.lt hP3.own k e)
      refine ⟨hP3.env.below ((Below.refl _ _).setCell hBw _), hP3.ps.setOther (by omega) _ _, hP3.own.grown (grown_set _ _ _ _) (fun h => by have := (hlt _ h).1; omega), hP3.nb, hP3.hB, hP3.hp⟩)
    have hN4 : Hid (OwnN (w3.setCell ⟨w.heap.size, 0, none⟩ (.iface ut ua)) (w1.heap.size + 1) w3.heap.size (.iface ut ua) x) := Lib.hid (by
      have h1 : OwnN w3 (w1.heap.size + 1) w3.heap.size (.iface ut ua) x := by simpa using hN
      exact h1.keep (fun k a b => set_far _ _ _ (by omega)))
    have s1 : Hid ((w3.setCell ⟨w.heap.size, 0, none⟩ (.iface ut ua)).heap[w.heap.size]? = some (.cells #[.iface ut ua] 24 (0, 0))) := Lib.hid (by rw [Lib.heap_setCell_same (i := 0) r1]; rfl)
    have s2 : Hid ((w3.setCell ⟨w.heap.size, 0, none⟩ (.iface ut ua)).heap[w.heap.size + 1]? = some (.cells #[.nilIface] 26 (0, 0))) := Lib.hid (by rw [set_far _ _ _ (by omega)]; exact r2)
    have hzl : w.heap.size ≤ (w3.setCell ⟨w.heap.size, 0, none⟩ (.iface ut ua)).heap.size := by simp; omega
    have x2 := hps3.c2
    have c3 := cellB r1 0 rfl
    have c4 := cellB r2 0 rfl
    have f3 := freeB r1 0
    have f4 := freeB r2 0
    have hqi : (q : Int) ≤ (ts.length : Int) := by omega
    have hne : w1.heap.size ≠ w.heap.size := by omega
    have e4 := hP4.out.env.e2
    have l4 := hP4.out.env.l2
    clear c1 c2 f1 f2 hW hQ V hps3 hP3 hN r1 r2
    by_cases hq : q < ts.length
    · have hq' : (q : Int) < (ts.length : Int) := by omega
      have Pl := Lib.hid (fun w (h : PsW A B (w.heap.size + 1 + 1) s (.slice va ts.length vc) ts q w1.heap.size w) => h.place_calls)
      have Pl : Hid (∀ w', PsW A B (w.heap.size + 1 + 1) s (.slice va ts.length vc) ts q w1.heap.size w' → Calls Tryz.prog 33 #[.pointer (some ⟨w1.heap.size, 0, none⟩)] w' fun e w'' => e = .returned (.int .i64 (placeT s ts q : Int)) ∧ Below w'.heap.size w' w'') := Lib.hid (fun w' h => h.place_calls)
      have F := Lib.hid (fun n w => fail_calls A 2 n w)
      have hPP : Hid (PP = .err 2 (placeT s ts q)) := Lib.hid (by have := hPP.out; rw [this]; exact if_pos hq)
      generalize placeT s ts q = P at *
      go_wp2_with fail
      refine wp_region_any (by kernel_rfl) ?_
      try (change wpAny _ _ _ _ _ _ _ (World.drew _))
      (refine wpAny_ready (rs := [0, 2]) (by kernel_rfl) (by simp) ?_)
      refine AllReady.cons rfl (fun K hK => ?_) (AllReady.cons rfl (fun K hK => ?_) AllReady.nil)
      all_goals go_simp
      · refine hK _ _ ?_
        clear hK K
        (refine wpAny_ready (rs := [1, 2]) (by kernel_rfl) (by simp) ?_)
        refine AllReady.cons rfl (fun K hK => ?_) (AllReady.cons rfl (fun K hK => ?_) AllReady.nil)
        all_goals go_simp
        · skip
          refine (Pl.out _ (hP4.out.next (show Below (w3.setCell ⟨w.heap.size, 0, none⟩ (.iface ut ua)).heap.size _ (World.drew _) from (by repeat (first | assumption | exact Below.refl _ _ | apply Below.drew | apply below_drewN | apply balloc | (refine Below.setCell ?_ (by first | omega | (simp <;> omega)) _)))))).mono ?_
          rintro e w5 ⟨rfl, hb5⟩
          have hb5' := bcall (show Below (w3.setCell ⟨w.heap.size, 0, none⟩ (.iface ut ua)).heap.size (w3.setCell ⟨w.heap.size, 0, none⟩ (.iface ut ua)) _ from (by repeat (first | assumption | exact Below.refl _ _ | apply Below.drew | apply below_drewN | apply balloc | (refine Below.setCell ?_ (by first | omega | (simp <;> omega)) _)))) hb5
          have x5 := (hP4.out.next hb5').env.e2
          have hz5 := hb5'.size
          refine hK _ _ ?_
          clear hK K
          (refine wpAny_ready (rs := [2]) (by kernel_rfl) (by simp) ?_; refine AllReady.cons rfl (fun K hK => ?_) AllReady.nil; go_simp)
          refine hK _ _ ?_
          clear hK K
          (refine wpAny_ready (rs := [3]) (by kernel_rfl) (by simp) ?_; refine AllReady.cons rfl (fun K hK => ?_) AllReady.nil; go_simp)
          refine (F.out _ _).mono ?_
          rintro e w6 ⟨⟨g, hgg, rfl, hat⟩, hb6⟩
          have hb6' := bcall hb5' hb6
          have r1 := box_next s1.out hb6'
          have r2 := box_next s2.out hb6'
          have hb3 := hb3.trans (show Below w.heap.size w3 w6 from Below.trans (show Below w.heap.size w3 (w3.setCell ⟨w.heap.size, 0, none⟩ (.iface ut ua)) from (by repeat (first | assumption | exact Below.refl _ _ | apply Below.drew | apply below_drewN | apply balloc | (refine Below.setCell ?_ (by first | omega | (simp <;> omega)) _)))) (hb6'.mono hzl))
          have hgg : w.heap.size + 2 ≤ g := by simp at hz5; omega
          refine leaves_cons (f := 30) (args := #[.pointer (some ⟨w.heap.size, 0, none⟩), .pointer (some ⟨w.heap.size + 1, 0, none⟩)]) (by simp) (by simp [go_sem]) ?_
          refine (catch_wrong w.heap.size (w.heap.size + 1) g _ _ [] _ r1 r2 (by omega)).mono ?_
          rintro e u' w9 ⟨rfl, rfl, p1, p2, hz9, hb9, hk9⟩
          have y1 := cellB p1 0 rfl
          have y2 := cellB p2 0 rfl
          have hgl := ltB hat
          have hPP' := hPP.out
          refine ⟨.tuple #[.nilIface, .iface 69 (.pointer (some ⟨g, 0, none⟩))], ?_, ?_, ?_⟩
          · simp [results, Tryz.results9, go_sem, y1, y2]
          · rw [hPP']
            exact ⟨g, by omega, rfl, (hk9 g hgl (by omega) (by omega)).trans hat⟩
          · exact hb3.trans (hb9 _ (Nat.le_refl _) (by omega))
        · refine hK _ _ ?_
          clear hK K
          (refine wpAny_ready (rs := [1]) (by kernel_rfl) (by simp) ?_; refine AllReady.cons rfl (fun K hK => ?_) AllReady.nil; go_simp)
          refine (Pl.out _ (hP4.out.next (show Below (w3.setCell ⟨w.heap.size, 0, none⟩ (.iface ut ua)).heap.size _ (World.drew _) from (by repeat (first | assumption | exact Below.refl _ _ | apply Below.drew | apply below_drewN | apply balloc | (refine Below.setCell ?_ (by first | omega | (simp <;> omega)) _)))))).mono ?_
          rintro e w5 ⟨rfl, hb5⟩
          have hb5' := bcall (show Below (w3.setCell ⟨w.heap.size, 0, none⟩ (.iface ut ua)).heap.size (w3.setCell ⟨w.heap.size, 0, none⟩ (.iface ut ua)) _ from (by repeat (first | assumption | exact Below.refl _ _ | apply Below.drew | apply below_drewN | apply balloc | (refine Below.setCell ?_ (by first | omega | (simp <;> omega)) _)))) hb5
          have x5 := (hP4.out.next hb5').env.e2
          have hz5 := hb5'.size
          refine hK _ _ ?_
          clear hK K
          (refine wpAny_ready (rs := [3]) (by kernel_rfl) (by simp) ?_; refine AllReady.cons rfl (fun K hK => ?_) AllReady.nil; go_simp)
          refine (F.out _ _).mono ?_
          rintro e w6 ⟨⟨g, hgg, rfl, hat⟩, hb6⟩
          have hb6' := bcall hb5' hb6
          have r1 := box_next s1.out hb6'
          have r2 := box_next s2.out hb6'
          have hb3 := hb3.trans (show Below w.heap.size w3 w6 from Below.trans (show Below w.heap.size w3 (w3.setCell ⟨w.heap.size, 0, none⟩ (.iface ut ua)) from (by repeat (first | assumption | exact Below.refl _ _ | apply Below.drew | apply below_drewN | apply balloc | (refine Below.setCell ?_ (by first | omega | (simp <;> omega)) _)))) (hb6'.mono hzl))
          have hgg : w.heap.size + 2 ≤ g := by simp at hz5; omega
          refine leaves_cons (f := 30) (args := #[.pointer (some ⟨w.heap.size, 0, none⟩), .pointer (some ⟨w.heap.size + 1, 0, none⟩)]) (by simp) (by simp [go_sem]) ?_
          refine (catch_wrong w.heap.size (w.heap.size + 1) g _ _ [] _ r1 r2 (by omega)).mono ?_
          rintro e u' w9 ⟨rfl, rfl, p1, p2, hz9, hb9, hk9⟩
          have y1 := cellB p1 0 rfl
          have y2 := cellB p2 0 rfl
          have hgl := ltB hat
          have hPP' := hPP.out
          refine ⟨.tuple #[.nilIface, .iface 69 (.pointer (some ⟨g, 0, none⟩))], ?_, ?_, ?_⟩
          · simp [results, Tryz.results9, go_sem, y1, y2]
          · rw [hPP']
            exact ⟨g, by omega, rfl, (hk9 g hgl (by omega) (by omega)).trans hat⟩
          · exact hb3.trans (hb9 _ (Nat.le_refl _) (by omega))
      · refine hK _ _ ?_
        clear hK K
        (refine wpAny_ready (rs := [0]) (by kernel_rfl) (by simp) ?_; refine AllReady.cons rfl (fun K hK => ?_) AllReady.nil; go_simp)
        refine hK _ _ ?_
        clear hK K
        (refine wpAny_ready (rs := [1]) (by kernel_rfl) (by simp) ?_; refine AllReady.cons rfl (fun K hK => ?_) AllReady.nil; go_simp)
        refine (Pl.out _ (hP4.out.next (show Below (w3.setCell ⟨w.heap.size, 0, none⟩ (.iface ut ua)).heap.size _ (World.drew _) from (by repeat (first | assumption | exact Below.refl _ _ | apply Below.drew | apply below_drewN | apply balloc | (refine Below.setCell ?_ (by first | omega | (simp <;> omega)) _)))))).mono ?_
        rintro e w5 ⟨rfl, hb5⟩
        have hb5' := bcall (show Below (w3.setCell ⟨w.heap.size, 0, none⟩ (.iface ut ua)).heap.size (w3.setCell ⟨w.heap.size, 0, none⟩ (.iface ut ua)) _ from (by repeat (first | assumption | exact Below.refl _ _ | apply Below.drew | apply below_drewN | apply balloc | (refine Below.setCell ?_ (by first | omega | (simp <;> omega)) _)))) hb5
        have x5 := (hP4.out.next hb5').env.e2
        have hz5 := hb5'.size
        refine hK _ _ ?_
        clear hK K
        (refine wpAny_ready (rs := [3]) (by kernel_rfl) (by simp) ?_; refine AllReady.cons rfl (fun K hK => ?_) AllReady.nil; go_simp)
        refine (F.out _ _).mono ?_
        rintro e w6 ⟨⟨g, hgg, rfl, hat⟩, hb6⟩
        have hb6' := bcall hb5' hb6
        have r1 := box_next s1.out hb6'
        have r2 := box_next s2.out hb6'
        have hb3 := hb3.trans (show Below w.heap.size w3 w6 from Below.trans (show Below w.heap.size w3 (w3.setCell ⟨w.heap.size, 0, none⟩ (.iface ut ua)) from (by repeat (first | assumption | exact Below.refl _ _ | apply Below.drew | apply below_drewN | apply balloc | (refine Below.setCell ?_ (by first | omega | (simp <;> omega)) _)))) (hb6'.mono hzl))
        have hgg : w.heap.size + 2 ≤ g := by simp at hz5; omega
        refine leaves_cons (f := 30) (args := #[.pointer (some ⟨w.heap.size, 0, none⟩), .pointer (some ⟨w.heap.size + 1, 0, none⟩)]) (by simp) (by simp [go_sem]) ?_
        refine (catch_wrong w.heap.size (w.heap.size + 1) g _ _ [] _ r1 r2 (by omega)).mono ?_
        rintro e u' w9 ⟨rfl, rfl, p1, p2, hz9, hb9, hk9⟩
        have y1 := cellB p1 0 rfl
        have y2 := cellB p2 0 rfl
        have hgl := ltB hat
        have hPP' := hPP.out
        refine ⟨.tuple #[.nilIface, .iface 69 (.pointer (some ⟨g, 0, none⟩))], ?_, ?_, ?_⟩
        · simp [results, Tryz.results9, go_sem, y1, y2]
        · rw [hPP']
          exact ⟨g, by omega, rfl, (hk9 g hgl (by omega) (by omega)).trans hat⟩
        · exact hb3.trans (hb9 _ (Nat.le_refl _) (by omega))
    · have hq' : ¬ (q : Int) < (ts.length : Int) := by omega
      go_wp2_with fail
      refine leaves_cons (f := 30) (args := #[.pointer (some ⟨w.heap.size, 0, none⟩), .pointer (some ⟨w.heap.size + 1, 0, none⟩)]) (by simp) (by simp [go_sem]) ?_
      refine (catch_none w.heap.size (w.heap.size + 1) _).mono ?_
      rintro e u' w9 ⟨rfl, rfl, hb9⟩
      have hz9 := hb9.size
      have p1 : w9.heap[w.heap.size]? = some (.cells #[.iface ut ua] 24 (0, 0)) := by
        rw [hb9.block _ (by simp; omega), set_far _ _ _ (by omega), Lib.heap_setCell_same (i := 0) s1.out]; rfl
      have p2 : w9.heap[w.heap.size + 1]? = some (.cells #[.nilIface] 26 (0, 0)) := by
        rw [hb9.block _ (by simp; omega), Lib.heap_setCell_same (i := 0) (show (_ : Option Obj) = some (.cells #[.nilIface] 26 (0, 0)) by rw [set_far _ _ _ (by omega)]; exact s2.out)]; rfl
      have y1 := cellB p1 0 rfl
      have y2 := cellB p2 0 rfl
      have hPP' := hPP.out
      rw [if_neg hq] at hPP'
      refine ⟨.tuple #[.iface ut ua, .nilIface], ?_, ?_, ?_⟩
      · simp [results, Tryz.results9, go_sem, y1, y2]
      · rw [hPP']
        refine ⟨_, rfl, (hN4.out.keep fun k a b => ?_).wide (by omega) ?_⟩
        · rw [hb9.block _ (by simp; omega), set_far _ _ _ (by omega), set_far _ _ _ (by omega)]
        · simp at hz9; omega
      · refine Below.trans ?_ (hb9.mono (by simp; omega))
        exact Below.trans hb3 (show Below w.heap.size w3 _ from (by repeat (first | assumption | exact Below.refl _ _ | apply Below.drew | apply below_drewN | apply balloc | (refine Below.setCell ?_ (by first | omega | (simp <;> omega)) _))))
theorem Parse_calls {A : Nat → Addr} {B : Nat} (s : ByteArray) (w : World) (hE : Env A B SVN w) (hs : s.size ≤ 3518437208882) :
    Calls Tryz.prog 9 #[.string s] w fun e w' => ParseR A w.heap.size (parseS s) e w' ∧ Below w.heap.size w w' := by
  unfold parseS
  by_cases h0 : (someS s).2.1 = 0
  · rw [if_pos h0]; exact Parse_ok s w hE hs h0
  · rw [if_neg h0]; exact Parse_err s w hE hs h0

end Go.Proofs.YtibopkodoidjoaaGreatDoor

/- Plain laws: each token by itself; tokens laid out anew with blanks between. No program in sight. -/
namespace Go.Proofs.YtibopkodoidjoaaGreatDoor
open Go Go.RowKit

/-- The bytes of a token. -/
def segL (s : ByteArray) (T : Tk) : List UInt8 := (s.extract T.fr T.to).data.toList
/-! ### Laid out anew -/
def layL (s : ByteArray) (Z : List UInt8) : List (List UInt8 × Tk) → List UInt8
  | [] => Z
  | (b, T) :: r => b ++ (segL s T ++ layL s Z r)
def wantL : Nat → List (List UInt8 × Tk) → List Tk
  | _, [] => []
  | p, (b, T) :: r => ⟨T.kind, p + b.length, p + b.length + (T.to - T.fr), T.text⟩ :: wantL (p + b.length + (T.to - T.fr)) r
def blanksL (b : List UInt8) : Prop := ∀ c ∈ b, blankN c.toNat = true
/-- What stands apart stays apart, and what stands side by side did so. -/
def glueOk : List (List UInt8 × Tk) → Prop
  | [] => True
  | (_, _) :: [] => True
  | (_, T) :: (b', T') :: r => (b' = [] → T.to = T'.fr) ∧ glueOk ((b', T') :: r)
end Go.Proofs.YtibopkodoidjoaaGreatDoor

/- Package tree, plain laws: nodes with their places struck out; two texts of alike tokens have alike trees; a node's text. No program in sight. -/
namespace Go.Proofs.YtibopkodoidjoaaGreatDoor
open Go Go.RowKit

mutual
/-- The places struck out. -/
def Nd.strip : Nd → Nd
  | .null _ => .null 0
  | .flag _ b => .flag 0 b
  | .num _ t => .num 0 t
  | .text _ t => .text 0 t
  | .lst _ xs => .lst 0 (stripL xs)
  | .obj _ xs => .obj 0 (stripM xs)
def stripL : List Nd → List Nd
  | [] => []
  | x :: xs => x.strip :: stripL xs
def stripM : List (ByteArray × Nat × Nd) → List (ByteArray × Nat × Nd)
  | [] => []
  | (k, _, x) :: xs => (k, 0, x.strip) :: stripM xs
end
/-- A text within quotes; nothing, if it is no UTF-8. -/
def qN (t : ByteArray) : List UInt8 := if utfE t = 0 then quoteL t.data.toList else []
def litNull : List UInt8 := [110, 117, 108, 108]
def litFlag (b : Bool) : List UInt8 := if b then [116, 114, 117, 101] else [102, 97, 108, 115, 101]
mutual
/-- A node's text. -/
def fmtN : Nd → List UInt8
  | .null _ => litNull
  | .flag _ b => litFlag b
  | .num _ t => t.data.toList
  | .text _ t => qN t
  | .lst _ xs => 91 :: (fmtL true xs ++ [93])
  | .obj _ xs => 123 :: (fmtM true xs ++ [125])
/-- The items' texts, a comma ahead of each but the first. -/
def fmtL : Bool → List Nd → List UInt8
  | _, [] => []
  | b, x :: xs => (if b then [] else [44]) ++ (fmtN x ++ fmtL false xs)
def fmtM : Bool → List (ByteArray × Nat × Nd) → List UInt8
  | _, [] => []
  | b, (k, _, x) :: xs => (if b then [] else [44]) ++ (qN k ++ (58 :: (fmtN x ++ fmtM false xs)))
end
mutual
theorem fmt_strip : ∀ x : Nd, fmtN x.strip = fmtN x
  | .null _ => rfl
  | .flag _ b => rfl
  | .num _ t => rfl
  | .text _ t => rfl
  | .lst _ xs => by rw [Nd.strip, fmtN, fmtN, fmtL_strip]
  | .obj _ xs => by rw [Nd.strip, fmtN, fmtN, fmtM_strip]
theorem fmtL_strip : ∀ (xs : List Nd) (b : Bool), fmtL b (stripL xs) = fmtL b xs
  | [], _ => by rw [stripL]
  | x :: xs, b => by rw [stripL, fmtL, fmtL, fmt_strip x, fmtL_strip xs]
theorem fmtM_strip : ∀ (xs : List (ByteArray × Nat × Nd)) (b : Bool), fmtM b (stripM xs) = fmtM b xs
  | [], _ => by rw [stripM]
  | (k, p, x) :: xs, b => by rw [stripM, fmtM, fmtM, fmt_strip x, fmtM_strip xs]
end
theorem fmtL_app : ∀ (xs : List Nd) (x : Nd) (b : Bool), fmtL b (xs ++ [x]) = fmtL b xs ++ ((if b && xs.isEmpty then [] else [44]) ++ fmtN x)
  | [], x, b => by
    rw [List.nil_append, fmtL, fmtL, fmtL, List.append_nil]
    cases b <;> rfl
  | y :: xs, x, b => by
    rw [List.cons_append, fmtL, fmtL, fmtL_app xs x false]
    cases b <;> simp
theorem fmtM_app : ∀ (xs : List (ByteArray × Nat × Nd)) (k : ByteArray) (p : Nat) (x : Nd) (b : Bool), fmtM b (xs ++ [(k, p, x)]) = fmtM b xs ++ ((if b && xs.isEmpty then [] else [44]) ++ (qN k ++ (58 :: fmtN x)))
  | [], k, p, x, b => by
    rw [List.nil_append, fmtM, fmtM, fmtM, List.append_nil]
    cases b <;> rfl
  | (k', p', y) :: xs, k, p, x, b => by
    rw [List.cons_append, fmtM, fmtM, fmtM_app xs k p x false]
    cases b <;> simp
/-- What a part answers, the places struck out. -/
def PR.strip {α : Type} (f : α → α) : PR α → PR α
  | .ok x q => .ok (f x) q
  | .err k _ => .err k 0
  | .out => .out
/-- Two texts with their tokens: the same kinds, texts, numbers. -/
structure Alike (s : ByteArray) (ts : List Tk) (s' : ByteArray) (ts' : List Tk) : Prop where
  len : ts'.length = ts.length
  kind : ∀ p, kindT ts' p = kindT ts p
  text : ∀ p, textT ts' p = textT ts p
  word : ∀ p, kindT ts p = 4 → wordT s' ts' p = wordT s ts p
end Go.Proofs.YtibopkodoidjoaaGreatDoor

/- Package scan: Quote. -/
namespace Go.Proofs.YtibopkodoidjoaaGreatDoor
open Go Go.RowKit

theorem hexL_hi : ∀ c : Nat, c < 32 → ((hexL.getD (c / 16) 0).toNat : Int) = 48 + (c : Int) / 16 := by decide +kernel
theorem hexB_at : ∀ m : Nat, m < 16 → bAt ⟨#[48, 49, 50, 51, 52, 53, 54, 55, 56, 57, 97, 98, 99, 100, 101, 102]⟩ m = (hexL.getD m 0).toNat := by decide +kernel
theorem hexB_at2 (c : Nat) : ∀ h, (((⟨#[48, 49, 50, 51, 52, 53, 54, 55, 56, 57, 97, 98, 99, 100, 101, 102]⟩ : ByteArray)[c % 16]'h).toNat : Int) = ((hexL.getD (c % 16) 0).toNat : Int) := fun h => by
  rw [bAt_eq, hexB_at _ (Nat.mod_lt _ (by decide))]
/-- What is written when k bytes are through. -/
def quoteK (s : ByteArray) (k : Nat) : List UInt8 := 34 :: (s.data.toList.take k).flatMap escB
theorem quoteK_succ {s : ByteArray} {k : Nat} (h : k < s.size) : quoteK s (k + 1) = quoteK s k ++ escB (UInt8.ofNat (bAt s k)) := by
  have hl : s.data.toList.length = s.size := by rw [Array.length_toList]; rfl
  unfold quoteK
  rw [List.take_succ_eq_append_getElem (by omega), List.flatMap_append, List.cons_append]
  have e : s.data.toList[k]'(by omega) = UInt8.ofNat (bAt s k) := by
    rw [← bAt_eq s k h]
    simp; rfl
  rw [e]
  simp
theorem escB_len (b : UInt8) : (escB b).length ≤ 6 := by
  unfold escB; repeat' split
  all_goals simp
theorem quoteK_len (s : ByteArray) : ∀ k, k ≤ s.size → (quoteK s k).length ≤ 1 + 6 * k
  | 0, _ => by simp [quoteK]
  | k + 1, h => by
    rw [quoteK_succ (by omega), List.length_append]
    have := quoteK_len s k (by omega)
    have := escB_len (UInt8.ofNat (bAt s k))
    omega
theorem quoteK_end (s : ByteArray) : (⟨(quoteK s s.size ++ [34]).toArray⟩ : ByteArray) = quoteS s := by
  have hl : s.data.toList.length = s.size := by rw [Array.length_toList]; rfl
  unfold quoteS quoteL quoteK
  rw [List.take_of_length_le (by omega)]
  rfl
theorem u8n {c : Nat} (h : c < 256) : (UInt8.ofNat c).toNat = c := by rw [UInt8.toNat_ofNat']; omega
theorem escB_two {c : Nat} (h : c < 256) (h2 : c = 34 ∨ c = 92) : escB (UInt8.ofNat c) = [92, UInt8.ofNat c] := by
  unfold escB; rw [if_pos]; rcases h2 with rfl | rfl <;> simp
theorem escB_six {c : Nat} (h : c < 32) : escB (UInt8.ofNat c) = [92, 117, 48, 48, hexL.getD (c / 16) 0, hexL.getD (c % 16) 0] := by
  have hc := u8n (c := c) (by omega)
  unfold escB
  rw [if_neg, if_pos (by rw [hc]; exact h), hc]
  rintro (e | e) <;> (have := congrArg UInt8.toNat e; rw [hc] at this; simp at this; omega)
theorem escB_one {c : Nat} (h : c < 256) (h2 : c ≠ 34) (h3 : c ≠ 92) (h4 : ¬ c < 32) : escB (UInt8.ofNat c) = [UInt8.ofNat c] := by
  have hc := u8n h
  unfold escB
  rw [if_neg, if_neg (by rw [hc]; exact h4)]
  rintro (e | e) <;> (have := congrArg UInt8.toNat e; rw [hc] at this; simp at this; omega)
set_option maxHeartbeats 4000000 in
set_option maxRecDepth 100000 in
theorem Quote_calls {A : Nat → Addr} {B : Nat} (s : ByteArray) (w : World) (hE : Env A B SU w) (hs : s.size ≤ 3518437208882) :
    Calls Tryz.prog 44 #[.string s] w fun e w' => e = .returned (if utfE s = 0 then .tuple #[.string (quoteS s), .nilIface] else .tuple #[.string ⟨#[]⟩, .iface 237 (.pointer (some (A 1)))]) ∧ Below w.heap.size w w' := by
  have hs' : (s.size : Int) ≤ 3518437208882 := by omega
  have C := Lib.hid (fun w hE => scalarsCheck_calls (A := A) (B := B) s w (by omega) hE)
  by_cases hu : utfE s = 0
  · rw [if_pos hu]
    rw [hu] at C
    replace C : Hid (∀ w, Env A B SU w → Calls Tryz.prog 71 #[.string s] w fun e w' => e = .returned (.tuple #[.int .i64 (brkAt s 0), .nilIface]) ∧ Below w.heap.size w w') := C
    replace hu := Lib.hid hu
    generalize brkAt s 0 = p at *
    obtain ⟨R, hR⟩ : ∃ R, R = quoteS s := ⟨_, rfl⟩
    rw [← hR]
    replace hR := Lib.hid hR
    replace hs := Lib.hid hs
    go_enter Tryz.func44, Tryz.ntmps44
    (go_wp2_with fail; repeat (any_goals (go_quiet (fail); go_wp2_with fail)))
    refine (C.out _ (hE.next (by repeat (first | assumption | exact Below.refl _ _ | apply Below.drew | apply below_drewN | apply balloc | (refine Below.setCell ?_ (by first | omega | (simp <;> omega)) _))))).mono ?_
    rintro e w1 ⟨rfl, hb⟩
    have hb1 : Below w.heap.size w w1 := bcall (by repeat (first | assumption | exact Below.refl _ _ | apply Below.drew | apply below_drewN | apply balloc | (refine Below.setCell ?_ (by first | omega | (simp <;> omega)) _))) hb
    have hz1 := hb1.size
    clear hb C
    (go_wp2_with fail; repeat (any_goals (go_quiet (fail); go_wp2_with fail)))
    go_loopw [20, 6] (fun v20 v6 wr => ∃ k : Nat, k ≤ s.size ∧ v20 = .int .i64 (k : Int) ∧ Hid (OwnB wr w.heap.size v6 (quoteK s k)) ∧ Below w.heap.size w wr) (fun v _ _ => s.size - (intOf v).toNat)
    case atStart => exact ⟨0, Nat.zero_le _, rfl, Lib.hid (OwnB.lit [34] _ rfl hz1 (by decide) rfl rfl), (by repeat (first | assumption | exact Below.refl _ _ | apply Below.drew | apply below_drewN | apply balloc | (refine Below.setCell ?_ (by first | omega | (simp <;> omega)) _)))⟩
    case round =>
      clear hb1 hz1
      obtain ⟨k, hk, rfl, ho1, hB⟩ := hrel
      have hx := byte_at s k
      have hz := hB.size
      have hql := Lib.hid (quoteK_len s k hk)
      by_cases hlt : k < s.size
      · have hlt' : (k : Int) < (s.size : Int) := by omega
        have hc := bAt_lt s k
        have hS := Lib.hid (quoteK_succ hlt)
        by_cases h2 : bAt s k = 34 ∨ bAt s k = 92
        · have hesc := Lib.hid (escB_two hc h2)
          have hn := Lib.hid (u8n hc)
          generalize bAt s k = c at *
          by_cases h34 : c = 34
          · have h34' : ((c : Int) == 34) = true := by simp; omega
            replace h34 := Lib.hid h34
            replace h2 := Lib.hid h2
            go_wp2_with (at_builtin; refine app_lit rfl _ _ rfl w.heap.size _ (quoteK s k) rfl (show OwnB _ _ _ _ from World.ownsRow.alloc ho1.out _) _ 2 2 _ _ _ [92, UInt8.ofNat c] rfl (heap_alloc_new _ _) ?c1 rfl (by have := hql.out; have := hs.out; omega) (by simp; omega) ?_)
            case c1 => unfold u8c; simp only [List.map_cons, List.map_nil, hn.out]; rfl
            intro v' w2 ho2 hg
            have hb2 := below_own (hB.alloc hz _) (show OwnB _ _ _ _ from World.ownsRow.alloc ho1.out _) hg (by simp; omega)
            replace ho2 := Lib.hid ho2
            clear hg
            (go_wp2_with fail; repeat (any_goals (go_quiet (fail); go_wp2_with fail)))
            go_roundw
            case measure => simp [intOf]; omega
            case rel => exact ⟨k + 1, by omega, by go_num, Lib.hid (by rw [hS.out, hesc.out]; exact ho2.out), by assumption⟩
          · have h34' : ((c : Int) == 34) = false := by simp; omega
            have h92' : ((c : Int) == 92) = true := by simp; omega
            replace h34 := Lib.hid h34
            replace h2 := Lib.hid h2
            go_wp2_with (at_builtin; refine app_lit rfl _ _ rfl w.heap.size _ (quoteK s k) rfl (show OwnB _ _ _ _ from World.ownsRow.alloc ho1.out _) _ 2 2 _ _ _ [92, UInt8.ofNat c] rfl (heap_alloc_new _ _) ?c1 rfl (by have := hql.out; have := hs.out; omega) (by simp; omega) ?_)
            case c1 => unfold u8c; simp only [List.map_cons, List.map_nil, hn.out]; rfl
            intro v' w2 ho2 hg
            have hb2 := below_own (hB.alloc hz _) (show OwnB _ _ _ _ from World.ownsRow.alloc ho1.out _) hg (by simp; omega)
            replace ho2 := Lib.hid ho2
            clear hg
            (go_wp2_with fail; repeat (any_goals (go_quiet (fail); go_wp2_with fail)))
            go_roundw
            case measure => simp [intOf]; omega
            case rel => exact ⟨k + 1, by omega, by go_num, Lib.hid (by rw [hS.out, hesc.out]; exact ho2.out), by assumption⟩
        · have h34' : ((bAt s k : Int) == 34) = false := by simp; omega
          have h92' : ((bAt s k : Int) == 92) = false := by simp; omega
          by_cases h32 : bAt s k < 32
          · have hesc := Lib.hid (escB_six h32)
            have h32' : (bAt s k : Int) < 32 := by omega
            have e1 := Lib.hid (hexL_hi _ h32)
            have e2 := Lib.hid (hexB_at2 (bAt s k))
            generalize bAt s k = c at *
            replace h2 := Lib.hid h2
            go_wp2_with (at_builtin; refine app_lit rfl _ _ rfl w.heap.size _ (quoteK s k) rfl (show OwnB _ _ _ _ from World.ownsRow.alloc ho1.out _) _ 6 6 _ _ _ [92, 117, 48, 48, hexL.getD (c / 16) 0, hexL.getD (c % 16) 0] rfl (heap_alloc_new _ _) ?c1 rfl (by have := hql.out; have := hs.out; omega) (by simp; omega) ?_)
            case c1 => unfold u8c; simp only [List.map_cons, List.map_nil, e1.out, e2.out]; rfl
            intro v' w2 ho2 hg
            have hb2 := below_own (hB.alloc hz _) (show OwnB _ _ _ _ from World.ownsRow.alloc ho1.out _) hg (by simp; omega)
            replace ho2 := Lib.hid ho2
            clear hg
            (go_wp2_with fail; repeat (any_goals (go_quiet (fail); go_wp2_with fail)))
            go_roundw
            case measure => simp [intOf]; omega
            case rel => exact ⟨k + 1, by omega, by go_num, Lib.hid (by rw [hS.out, hesc.out]; exact ho2.out), by assumption⟩
          · have h32' : ¬ (bAt s k : Int) < 32 := by omega
            have hesc := Lib.hid (escB_one hc (fun h => h2 (Or.inl h)) (fun h => h2 (Or.inr h)) h32)
            have hn := Lib.hid (u8n hc)
            generalize bAt s k = c at *
            replace h2 := Lib.hid h2
            go_wp2_with (at_builtin; refine app_lit rfl _ _ rfl w.heap.size _ (quoteK s k) rfl (show OwnB _ _ _ _ from World.ownsRow.alloc ho1.out _) _ 1 1 _ _ _ [UInt8.ofNat c] rfl (heap_alloc_new _ _) ?c1 rfl (by have := hql.out; have := hs.out; omega) (by simp; omega) ?_)
            case c1 => unfold u8c; simp only [List.map_cons, List.map_nil, hn.out]
            intro v' w2 ho2 hg
            have hb2 := below_own (hB.alloc hz _) (show OwnB _ _ _ _ from World.ownsRow.alloc ho1.out _) hg (by simp; omega)
            replace ho2 := Lib.hid ho2
            clear hg
            (go_wp2_with fail; repeat (any_goals (go_quiet (fail); go_wp2_with fail)))
            go_roundw
            case measure => simp [intOf]; omega
            case rel => exact ⟨k + 1, by omega, by go_num, Lib.hid (by rw [hS.out, hesc.out]; exact ho2.out), by assumption⟩
      · obtain rfl : k = s.size := by omega
        have hend := Lib.hid (quoteK_end s)
        go_wp2_with (at_builtin; refine app_lit rfl _ _ rfl w.heap.size _ (quoteK s s.size) rfl (show OwnB _ _ _ _ from World.ownsRow.alloc ho1.out _) _ 1 1 _ _ _ [34] rfl (heap_alloc_new _ _) rfl rfl (by have := hql.out; have := hs.out; omega) (by simp; omega) ?_)
        intro v' w2 ho2 hg
        have hb2 := below_own (hB.alloc hz _) (show OwnB _ _ _ _ from World.ownsRow.alloc ho1.out _) hg (by simp; omega)
        have hcv := conv_own ho2
        rw [hend.out, ← hR.out] at hcv
        replace ho2 := Lib.hid ho2
        clear hg
        (go_wp2_with fail; repeat (any_goals (go_quiet (fail); go_wp2_with fail)))
        go_ret2
        exact ⟨rfl, hb2⟩
  · rw [if_neg hu]
    have hu1 : utfE s = 1 := by
      unfold utfE at hu ⊢
      split at hu
      · rename_i h; rw [if_pos h]
      · exact absurd rfl hu
    rw [hu1] at C
    replace C : Hid (∀ w, Env A B SU w → Calls Tryz.prog 71 #[.string s] w fun e w' => e = .returned (.tuple #[.int .i64 (brkAt s 0), .iface 237 (.pointer (some (A 1)))]) ∧ Below w.heap.size w w') := C
    replace hu := Lib.hid hu
    replace hu1 := Lib.hid hu1
    generalize brkAt s 0 = p at *
    go_enter Tryz.func44, Tryz.ntmps44
    (go_wp2_with fail; repeat (any_goals (go_quiet (fail); go_wp2_with fail)))
    refine (C.out _ (hE.next (by repeat (first | assumption | exact Below.refl _ _ | apply Below.drew | apply below_drewN | apply balloc | (refine Below.setCell ?_ (by first | omega | (simp <;> omega)) _))))).mono ?_
    rintro e w1 ⟨rfl, hb⟩
    have hb1 : Below w.heap.size w w1 := bcall (by repeat (first | assumption | exact Below.refl _ _ | apply Below.drew | apply below_drewN | apply balloc | (refine Below.setCell ?_ (by first | omega | (simp <;> omega)) _))) hb
    have e1 := (hE.next hb1).e1
    clear hb C
    (go_wp2_with fail; repeat (any_goals (go_quiet (fail); go_wp2_with fail)))
    all_goals
      go_ret2
      exact ⟨rfl, (by repeat (first | assumption | exact Below.refl _ _ | apply Below.drew | apply below_drewN | apply balloc | (refine Below.setCell ?_ (by first | omega | (simp <;> omega)) _)))⟩

end Go.Proofs.YtibopkodoidjoaaGreatDoor

/- Package tree, plain laws: what holds of every text of a node; how long a node's text can be. No program in sight. -/
namespace Go.Proofs.YtibopkodoidjoaaGreatDoor
open Go Go.RowKit

mutual
/-- P holds of every text and key. -/
def allT (P : ByteArray → Prop) : Nd → Prop
  | .null _ => True
  | .flag _ _ => True
  | .num _ _ => True
  | .text _ t => P t
  | .lst _ xs => allL P xs
  | .obj _ xs => allM P xs
def allL (P : ByteArray → Prop) : List Nd → Prop
  | [] => True
  | x :: xs => allT P x ∧ allL P xs
def allM (P : ByteArray → Prop) : List (ByteArray × Nat × Nd) → Prop
  | [] => True
  | (k, _, x) :: xs => P k ∧ allT P x ∧ allM P xs
end
theorem allL_mem {P : ByteArray → Prop} : ∀ {xs : List Nd}, allL P xs → ∀ x ∈ xs, allT P x
  | [], _, x, h => by cases h
  | y :: xs, h, x, hx => by
    rw [allL] at h
    rcases List.mem_cons.1 hx with rfl | hx
    · exact h.1
    · exact allL_mem h.2 x hx
theorem allM_mem {P : ByteArray → Prop} : ∀ {xs : List (ByteArray × Nat × Nd)}, allM P xs → ∀ m ∈ xs, P m.1 ∧ allT P m.2.2
  | [], _, x, h => by cases h
  | (k, p, y) :: xs, h, x, hx => by
    rw [allM] at h
    rcases List.mem_cons.1 hx with rfl | hx
    · exact ⟨h.1, h.2.1⟩
    · exact allM_mem h.2.2 x hx
theorem p_all {s : ByteArray} {ts : List Tk} {P : ByteArray → Prop} (hP : ∀ p, kindT ts p = 5 → P (textT ts p)) : ∀ f,
    (∀ deep p x q, pV s ts f deep p = .ok x q → allT P x) ∧
    (∀ deep p xs q, pI s ts f deep p = .ok xs q → allL P xs) ∧
    (∀ deep seen p xs q, pM s ts f deep seen p = .ok xs q → allM P xs)
  | 0 => ⟨(fun _ _ _ _ h => by rw [pV] at h; cases h), (fun _ _ _ _ h => by rw [pI] at h; cases h), (fun _ _ _ _ _ h => by rw [pM] at h; cases h)⟩
  | f + 1 => by
    obtain ⟨iV, iI, iM⟩ := p_all hP f
    refine ⟨?_, ?_, ?_⟩
    · intro deep p x q h
      rw [pV] at h
      split at h
      · cases h; trivial
      split at h
      · cases h; trivial
      split at h
      · cases h; trivial
      split at h
      · cases h; trivial
      split at h
      · rename_i h5
        cases h; exact hP p h5
      split at h
      · split at h
        · cases h
        · by_cases h9 : kindT ts (p + 1) = 9
          · rw [if_pos h9] at h; cases h; trivial
          · rw [if_neg h9] at h
            cases hI : pI s ts f deep (p + 1) with
            | ok xs r => rw [hI] at h; cases h; exact iI _ _ _ _ hI
            | err k pl => rw [hI] at h; cases h
            | out => rw [hI] at h; cases h
      split at h
      · split at h
        · cases h
        · by_cases h9 : kindT ts (p + 1) = 7
          · rw [if_pos h9] at h; cases h; trivial
          · rw [if_neg h9] at h
            cases hI : pM s ts f deep [] (p + 1) with
            | ok xs r => rw [hI] at h; cases h; exact iM _ _ _ _ _ hI
            | err k pl => rw [hI] at h; cases h
            | out => rw [hI] at h; cases h
      cases h
    · intro deep p xs q h
      rw [pI] at h
      cases hV : pV s ts f (deep + 1) p with
      | err k pl => rw [hV] at h; cases h
      | out => rw [hV] at h; cases h
      | ok x r =>
        rw [hV] at h
        dsimp only at h
        cases hr : rest s ts 9 r with
        | err k pl => rw [hr] at h; cases h
        | out => rw [hr] at h; cases h
        | ok b r' =>
          rw [hr] at h
          cases b with
          | true => cases h; exact ⟨iV _ _ _ _ hV, trivial⟩
          | false =>
            dsimp only at h
            cases hI : pI s ts f deep r' with
            | ok ys r => rw [hI] at h; cases h; exact ⟨iV _ _ _ _ hV, iI _ _ _ _ hI⟩
            | err k pl => rw [hI] at h; cases h
            | out => rw [hI] at h; cases h
    · intro deep seen p xs q h
      rw [pM] at h
      split at h
      · rename_i h5
        split at h
        · cases h
        · split at h
          · cases hV : pV s ts f (deep + 1) (p + 2) with
            | err k pl => rw [hV] at h; cases h
            | out => rw [hV] at h; cases h
            | ok x r =>
              rw [hV] at h
              dsimp only at h
              cases hr : rest s ts 7 r with
              | err k pl => rw [hr] at h; cases h
              | out => rw [hr] at h; cases h
              | ok b r' =>
                rw [hr] at h
                cases b with
                | true => cases h; exact ⟨hP p h5, iV _ _ _ _ hV, trivial⟩
                | false =>
                  dsimp only at h
                  cases hI : pM s ts f deep (seen ++ [textT ts p]) r' with
                  | ok ys r => rw [hI] at h; cases h; exact ⟨hP p h5, iV _ _ _ _ hV, iM _ _ _ _ _ hI⟩
                  | err k pl => rw [hI] at h; cases h
                  | out => rw [hI] at h; cases h
          · cases h
      · cases h
theorem esc_len : ∀ l : List UInt8, (l.flatMap escB).length ≤ 6 * l.length
  | [] => Nat.le_refl _
  | c :: l => by
    rw [List.flatMap_cons, List.length_append, List.length_cons]
    have := esc_len l
    have := escB_len c
    omega
theorem qN_len (t : ByteArray) : (qN t).length ≤ 6 * t.size + 2 := by
  unfold qN
  split
  · unfold quoteL
    rw [List.length_cons, List.length_append, List.length_singleton]
    have := esc_len t.data.toList
    have h : t.data.toList.length = t.size := by rw [Array.length_toList]; rfl
    omega
  · exact Nat.zero_le _
theorem fmtL_len : ∀ xs : List Nd, (fmtL false xs).length ≤ (fmtL true xs).length + 1
  | [] => by rw [fmtL, fmtL]; simp
  | x :: xs => by rw [fmtL, fmtL]; simp
theorem fmtM_len : ∀ xs : List (ByteArray × Nat × Nd), (fmtM false xs).length ≤ (fmtM true xs).length + 1
  | [] => by rw [fmtM, fmtM]; simp
  | (k, p, x) :: xs => by rw [fmtM, fmtM]; simp
theorem p_len {s : ByteArray} {ts : List Tk} {m M : Nat} (hM : 6 * m + 8 ≤ M) (ht : ∀ p, (textT ts p).size ≤ m) (hw : ∀ p, (wordT s ts p).size ≤ m) : ∀ f,
    (∀ deep p x q, pV s ts f deep p = .ok x q → p * M + (fmtN x).length ≤ q * M) ∧
    (∀ deep p xs q, pI s ts f deep p = .ok xs q → p * M + (fmtL true xs).length + 1 ≤ q * M) ∧
    (∀ deep seen p xs q, pM s ts f deep seen p = .ok xs q → p * M + (fmtM true xs).length + 1 ≤ q * M)
  | 0 => ⟨(fun _ _ _ _ h => by rw [pV] at h; cases h), (fun _ _ _ _ h => by rw [pI] at h; cases h), (fun _ _ _ _ _ h => by rw [pM] at h; cases h)⟩
  | f + 1 => by
    obtain ⟨iV, iI, iM⟩ := p_len hM ht hw f
    have one : ∀ p, (p + 1) * M = p * M + M := fun p => Nat.succ_mul p M
    have two : ∀ p, (p + 2) * M = p * M + M + M := fun p => by rw [show p + 2 = (p + 1) + 1 from rfl, one, one]
    have hl : ∀ t : ByteArray, t.data.toList.length = t.size := fun t => by rw [Array.length_toList]; rfl
    refine ⟨?_, ?_, ?_⟩
    · intro deep p x q h
      rw [pV] at h
      split at h
      · cases h; rw [one, fmtN]; show p * M + 4 ≤ _; omega
      split at h
      · cases h; rw [one, fmtN]; show p * M + 4 ≤ _; omega
      split at h
      · cases h; rw [one, fmtN]; show p * M + 5 ≤ _; omega
      split at h
      · cases h
        rw [one, fmtN, hl]
        have := hw p
        omega
      split at h
      · cases h
        rw [one, fmtN]
        have := ht p
        have := qN_len (textT ts p)
        omega
      split at h
      · split at h
        · cases h
        · by_cases h9 : kindT ts (p + 1) = 9
          · rw [if_pos h9] at h; cases h
            rw [two, fmtN, fmtL]
            show p * M + 2 ≤ _
            omega
          · rw [if_neg h9] at h
            cases hI : pI s ts f deep (p + 1) with
            | ok xs r =>
              rw [hI] at h; cases h
              have := iI _ _ _ _ hI
              rw [one] at this
              rw [fmtN, List.length_cons, List.length_append, List.length_singleton]
              omega
            | err k pl => rw [hI] at h; cases h
            | out => rw [hI] at h; cases h
      split at h
      · split at h
        · cases h
        · by_cases h9 : kindT ts (p + 1) = 7
          · rw [if_pos h9] at h; cases h
            rw [two, fmtN, fmtM]
            show p * M + 2 ≤ _
            omega
          · rw [if_neg h9] at h
            cases hI : pM s ts f deep [] (p + 1) with
            | ok xs r =>
              rw [hI] at h; cases h
              have := iM _ _ _ _ _ hI
              rw [one] at this
              rw [fmtN, List.length_cons, List.length_append, List.length_singleton]
              omega
            | err k pl => rw [hI] at h; cases h
            | out => rw [hI] at h; cases h
      cases h
    · intro deep p xs q h
      rw [pI] at h
      cases hV : pV s ts f (deep + 1) p with
      | err k pl => rw [hV] at h; cases h
      | out => rw [hV] at h; cases h
      | ok x r =>
        rw [hV] at h
        dsimp only at h
        have h1 := iV _ _ _ _ hV
        cases hr : rest s ts 9 r with
        | err k pl => rw [hr] at h; cases h
        | out => rw [hr] at h; cases h
        | ok b r' =>
          have hr' : r' = r + 1 := by
            unfold rest at hr
            split at hr
            · cases hr; rfl
            · split at hr
              · cases hr; rfl
              · cases hr
          subst hr'
          rw [hr] at h
          cases b with
          | true =>
            cases h
            rw [one, fmtL, fmtL]
            simp
            omega
          | false =>
            dsimp only at h
            cases hI : pI s ts f deep (r + 1) with
            | ok ys r =>
              rw [hI] at h; cases h
              have h2 := iI _ _ _ _ hI
              rw [one] at h2
              have h3 := fmtL_len ys
              rw [fmtL]
              simp
              omega
            | err k pl => rw [hI] at h; cases h
            | out => rw [hI] at h; cases h
    · intro deep seen p xs q h
      rw [pM] at h
      have h4 := ht p
      have h5 := qN_len (textT ts p)
      split at h
      · split at h
        · cases h
        · split at h
          · cases hV : pV s ts f (deep + 1) (p + 2) with
            | err k pl => rw [hV] at h; cases h
            | out => rw [hV] at h; cases h
            | ok x r =>
              rw [hV] at h
              dsimp only at h
              have h1 := iV _ _ _ _ hV
              rw [two] at h1
              cases hr : rest s ts 7 r with
              | err k pl => rw [hr] at h; cases h
              | out => rw [hr] at h; cases h
              | ok b r' =>
                have hr' : r' = r + 1 := by
                  unfold rest at hr
                  split at hr
                  · cases hr; rfl
                  · split at hr
                    · cases hr; rfl
                    · cases hr
                subst hr'
                rw [hr] at h
                cases b with
                | true =>
                  cases h
                  rw [one, fmtM, fmtM]
                  simp
                  omega
                | false =>
                  dsimp only at h
                  cases hI : pM s ts f deep (seen ++ [textT ts p]) (r + 1) with
                  | ok ys r =>
                    rw [hI] at h; cases h
                    have h2 := iM _ _ _ _ _ hI
                    rw [one] at h2
                    have h3 := fmtM_len ys
                    rw [fmtM]
                    simp
                    omega
                  | err k pl => rw [hI] at h; cases h
                  | out => rw [hI] at h; cases h
          · cases h
      · cases h
theorem parse_pV {s : ByteArray} {ts : List Tk} {x : Nd} {q : Nat} (h : pP s ts = .ok x q) : pV s ts (2 * ts.length + 1) 0 0 = .ok x q ∧ q = ts.length := by
  have hf := pV_fits s ts
  unfold pP at h
  cases hV : pV s ts (2 * ts.length + 1) 0 0 with
  | err k pl => rw [hV] at h; cases h
  | out => rw [hV] at h; cases h
  | ok y r =>
    rw [hV] at h hf
    dsimp only at h
    split at h
    · cases h
    · cases h
      have := hf.2
      exact ⟨rfl, by omega⟩
theorem textT_le {ts : List Tk} {m : Nat} (h : ∀ T ∈ ts, T.text.size ≤ m) (p : Nat) : (textT ts p).size ≤ m := by
  unfold textT
  cases hT : ts[p]? with
  | none => exact Nat.zero_le _
  | some T => exact h T (List.mem_of_getElem? hT)
theorem wordT_le {s : ByteArray} {ts : List Tk} {m : Nat} (h : s.size ≤ m) (p : Nat) : (wordT s ts p).size ≤ m := by
  unfold wordT
  cases hT : ts[p]? with
  | none => exact Nat.zero_le _
  | some T =>
    show (s.extract T.fr T.to).size ≤ m
    rw [ByteArray.size_extract]
    omega

end Go.Proofs.YtibopkodoidjoaaGreatDoor

/- Package tree: quoted, and format of a node that has no items. -/
namespace Go.Proofs.YtibopkodoidjoaaGreatDoor
open Go Go.RowKit

/-- Blocks below base are as they were, and blocks that hold no bytes. -/
structure FB (base : Nat) (w w' : World) : Prop where
  bel : Below base w w'
  keep : ∀ (k : Nat) (o : Obj), w.heap[k]? = some o → (∀ cs fr, o ≠ .cells cs 5 fr) → w'.heap[k]? = some o
theorem FB.refl (base : Nat) (w : World) : FB base w w := ⟨Below.refl _ _, fun _ _ h _ => h⟩
theorem FB.trans {base : Nat} {a b c : World} (h : FB base a b) (k : FB base b c) : FB base a c := ⟨h.bel.trans k.bel, fun i o hi hn => k.keep i o (h.keep i o hi hn) hn⟩
theorem FB.ofB {base : Nat} {a b : World} (h : Below a.heap.size a b) (hb : base ≤ a.heap.size) : FB base a b := ⟨h.mono hb, fun i _ hi _ => (h.block i (ltB hi)).trans hi⟩
theorem FB.alloc {base : Nat} {a b : World} (h : FB base a b) (hb : base ≤ b.heap.size) (o : Obj) : FB base a (b.alloc o) := h.trans (FB.ofB ((Below.refl _ _).alloc (Nat.le_refl _) _) hb)
theorem FB.row {base : Nat} {a b c : World} {v : Value} {l : List UInt8} (h : FB base a b) (ho : OwnB b base v l) (hg : b.grownBy c v.ownBlock) (hb : base ≤ b.heap.size) : FB base a c := by
  refine h.trans ⟨Below.grown (Below.refl _ _) hg hb (fun k hk => ho.lt k hk), fun k o hk hn => (hg.block k (ltB hk) (fun e => ?_)).trans hk⟩
  obtain ⟨_, ⟨h2, _⟩ | ⟨g, cap, cur, h2, hbg, hg2, _⟩⟩ := ho
  · rw [h2] at e; cases e
  · rw [h2] at e
    cases e
    rw [hk] at hg2
    cases hg2
    exact hn _ _ rfl
theorem FB.size {base : Nat} {a b : World} (h : FB base a b) : a.heap.size ≤ b.heap.size := h.bel.size
/-- What format and quoted answer: the bytes l behind those of before. -/
def OutR (base : Nat) (w : World) (l : List UInt8) (e : Ending) (w' : World) : Prop := ∃ v', e = .returned v' ∧ OwnB w' base v' l ∧ FB base w w'
theorem OwnB.alloc {w : World} {base : Nat} {v : Value} {l : List UInt8} (h : OwnB w base v l) (o : Obj) : OwnB (w.alloc o) base v l := World.ownsRow.alloc h o
set_option maxHeartbeats 1000000 in
set_option maxRecDepth 100000 in
theorem quoted_calls {A : Nat → Addr} {B base : Nat} (t : ByteArray) (v : Value) (l : List UInt8) (w : World) (hE : Env A B SU w) (ho : OwnB w base v l) (hb : base ≤ w.heap.size) (ht : t.size ≤ 3518437208882) (hl : l.length + (qN t).length ≤ 140737488355328) :
    Calls Tryz.prog 70 #[v, .string t] w (fun e w' => OutR base w (l ++ qN t) e w' ∧ w.grownBy w' v.ownBlock) := by
  have C := Lib.hid (fun w hE => Quote_calls (A := A) (B := B) t w hE ht)
  have hqs : (quoteS t).data.toList = quoteL t.data.toList := by unfold quoteS; simp
  replace ho := Lib.hid ho
  by_cases hu : utfE t = 0
  · have hq : qN t = quoteL t.data.toList := by unfold qN; rw [if_pos hu]
    rw [hq] at hl ⊢
    rw [← hqs] at hl ⊢
    replace C : Hid (∀ w, Env A B SU w → Calls Tryz.prog 44 #[.string t] w fun e w' => e = .returned (.tuple #[.string (quoteS t), .nilIface]) ∧ Below w.heap.size w w') := Lib.hid (fun w hE => by
      have := C.out w hE
      rw [if_pos hu] at this
      exact this)
    have hsz : (quoteS t).data.toList.length = (quoteS t).size := by rw [Array.length_toList]; rfl
    rw [hsz] at hl
    generalize quoteS t = q at *
    replace hqs := Lib.hid hqs
    replace hq := Lib.hid hq
    replace hu := Lib.hid hu
    replace hsz := Lib.hid hsz
    go_enter Tryz.func70, Tryz.ntmps70
    (go_wp2_with fail; repeat (any_goals (go_quiet (fail); go_wp2_with fail)))
    refine (C.out _ (hE.next (by repeat (first | assumption | exact Below.refl _ _ | apply Below.drew | apply below_drewN | apply balloc | (refine Below.setCell ?_ (by first | omega | (simp <;> omega)) _))))).mono ?_
    rintro e w1 ⟨rfl, hb1⟩
    have ho1 := ho.out.next (w' := w1) (bcall (by repeat (first | assumption | exact Below.refl _ _ | apply Below.drew | apply below_drewN | apply balloc | (refine Below.setCell ?_ (by first | omega | (simp <;> omega)) _))) hb1)
    have hb2 : Below w.heap.size w w1 := bcall (by repeat (first | assumption | exact Below.refl _ _ | apply Below.drew | apply below_drewN | apply balloc | (refine Below.setCell ?_ (by first | omega | (simp <;> omega)) _))) hb1
    have hz := hb2.size
    go_wp2_with (at_builtin; refine app_str rfl _ _ rfl base v l rfl ho1 q rfl hl (by omega) ?_)
    intro v' w2 ho2 hg
    go_wp2_with fail
    go_ret
    exact ⟨⟨v', rfl, ho2, (FB.ofB hb2 hb).row ho1 hg (by omega)⟩, grown_trans (grown_of_below hb2) hg⟩
  · have hq : qN t = [] := by unfold qN; rw [if_neg hu]
    rw [hq, List.append_nil]
    replace C : Hid (∀ w, Env A B SU w → Calls Tryz.prog 44 #[.string t] w fun e w' => e = .returned (.tuple #[.string ⟨#[]⟩, .iface 237 (.pointer (some (A 1)))]) ∧ Below w.heap.size w w') := Lib.hid (fun w hE => by
      have := C.out w hE
      rw [if_neg hu] at this
      exact this)
    replace hqs := Lib.hid hqs
    replace hq := Lib.hid hq
    replace hu := Lib.hid hu
    go_enter Tryz.func70, Tryz.ntmps70
    (go_wp2_with fail; repeat (any_goals (go_quiet (fail); go_wp2_with fail)))
    refine (C.out _ (hE.next (by repeat (first | assumption | exact Below.refl _ _ | apply Below.drew | apply below_drewN | apply balloc | (refine Below.setCell ?_ (by first | omega | (simp <;> omega)) _))))).mono ?_
    rintro e w1 ⟨rfl, hb1⟩
    have ho1 := ho.out.next (w' := w1) (bcall (by repeat (first | assumption | exact Below.refl _ _ | apply Below.drew | apply below_drewN | apply balloc | (refine Below.setCell ?_ (by first | omega | (simp <;> omega)) _))) hb1)
    have hb2 : Below w.heap.size w w1 := bcall (by repeat (first | assumption | exact Below.refl _ _ | apply Below.drew | apply below_drewN | apply balloc | (refine Below.setCell ?_ (by first | omega | (simp <;> omega)) _))) hb1
    go_wp2_with fail
    go_ret
    exact ⟨⟨v, rfl, ho1, FB.ofB hb2 hb⟩, grown_of_below hb2⟩
set_option maxHeartbeats 1000000 in
theorem appBool_in {base : Nat} (x : Bool) (v : Value) (l : List UInt8) (w : World) (ho : OwnB w base v l) (hb : base ≤ w.heap.size) (hl : l.length + (litFlag x).length ≤ 140737488355328) :
    Calls Tryz.prog 88 #[v, .bool x] w (OutR base w (l ++ litFlag x)) := by
  cases x
  all_goals
    go_enter Tryz.func88, Tryz.ntmps88
    go_wp2_with (at_builtin; refine app_str rfl _ _ rfl base v l rfl ho _ rfl hl (by omega) ?_)
    intro v' w2 ho2 hg
    go_wp2_with fail
    go_ret
    exact ⟨v', rfl, ho2, (FB.refl _ _).row ho hg hb⟩
set_option maxHeartbeats 1000000 in
theorem appBool_calls {base : Nat} (x : Bool) (v : Value) (l : List UInt8) (w : World) (ho : OwnB w base v l) (hb : base ≤ w.heap.size) (hl : l.length + (litFlag x).length ≤ 140737488355328) :
    Calls Tryz.prog 69 #[v, .bool x] w (OutR base w (l ++ litFlag x)) := by
  have C := Lib.hid (appBool_in x v l w ho hb hl)
  go_enter Tryz.func69, Tryz.ntmps69
  go_wp2_with fail
  refine C.out.mono ?_
  rintro e w1 ⟨v', rfl, ho1, hb1⟩
  go_wp2_with fail
  go_ret
  exact ⟨v', rfl, ho1, hb1⟩

end Go.Proofs.YtibopkodoidjoaaGreatDoor
