/- Lemmas of the proof, put together: Spoil, TreeName, As, Lives18, At18. -/
import Derived.Test.YtibopkodoidjoaaGreatDoorM7
import Derived.Test.YtibopkodoidjoaaGreatDoorM1
import Derived.Stop.Asserts
import Derived.RowKitTokens

/- The statements of chapter 18: spoil. -/
namespace Go.Proofs.YtibopkodoidjoaaGreatDoor
open Go Go.RowKit

/-- A world behind another: of what was there only blocks lo .. hi have turned. -/
structure Sp (lo hi : Nat) (w w' : World) : Prop where
  os : w'.os = w.os
  tape : w'.tape = w.tape
  output : w'.output = w.output
  size : w.heap.size ≤ w'.heap.size
  block : ∀ k, k < w.heap.size → k < lo ∨ hi ≤ k → w'.heap[k]? = w.heap[k]?
theorem Sp.of {lo hi : Nat} {w w' : World} (hb : Below w.heap.size w w') : Sp lo hi w w' := ⟨hb.os, hb.tape, hb.output, hb.size, fun k h _ => hb.block k h⟩
theorem Sp.below {lo hi : Nat} {w w' w'' : World} (h : Sp lo hi w w') (hb : Below w'.heap.size w' w'') : Sp lo hi w w'' := ⟨hb.os.trans h.os, hb.tape.trans h.tape, hb.output.trans h.output, Nat.le_trans h.size hb.size, fun k h1 h2 => (hb.block k (Nat.lt_of_lt_of_le h1 h.size)).trans (h.block k h1 h2)⟩
theorem Sp.sub {lo hi l h : Nat} {w w' w'' : World} (h1 : Sp lo hi w w') (h2 : Sp l h w' w'') (hl : lo ≤ l) (hh : h ≤ hi) : Sp lo hi w w'' :=
  ⟨h2.os.trans h1.os, h2.tape.trans h1.tape, h2.output.trans h1.output, Nat.le_trans h1.size h2.size, fun k k1 k2 => (h2.block k (Nat.lt_of_lt_of_le k1 h1.size) (by omega)).trans (h1.block k k1 k2)⟩
theorem Sp.grown {lo hi g : Nat} {w w' w'' : World} (h1 : Sp lo hi w w') (h2 : w'.grownBy w'' (some g)) (hl : lo ≤ g) (hh : g < hi) : Sp lo hi w w'' :=
  ⟨h2.os.trans h1.os, h2.tape.trans h1.tape, h2.output.trans h1.output, Nat.le_trans h1.size h2.size, fun k k1 k2 => (h2.block k (Nat.lt_of_lt_of_le k1 h1.size) (fun e => by have := Option.some.inj e; omega)).trans (h1.block k k1 k2)⟩
theorem Sp.keep {lo hi g : Nat} {w w' : World} {o : Obj} (h : Sp lo hi w w') (hg : w.heap[g]? = some o) (hn : g < lo ∨ hi ≤ g) : w'.heap[g]? = some o := (h.block g (ltB hg) hn).trans hg
/-- What is asked of spoil at a node that lies in world w0. -/
def SpC (w0 : World) (lo hi : Nat) (u : Value) : Prop := ∀ w, (∀ k, lo ≤ k → k < hi → w.heap[k]? = w0.heap[k]?) → hi ≤ w.heap.size →
  Calls Tryz.prog 13 #[u] w fun e w' => e = .returned (.tuple #[]) ∧ Sp lo hi w w'
set_option maxHeartbeats 1000000 in
set_option maxRecDepth 100000 in
theorem sp_null (P : Nat) {w0 : World} (lo hi : Nat) : SpC w0 lo hi (.iface 90 (.agg #[.int .i64 (P : Int)])) := by
  intro w _ _
  go_enter Tryz.func13, Tryz.ntmps13
  (go_wp2_with fail; repeat (any_goals (go_quiet (fail); go_wp2_with fail)))
  refine ⟨rfl, .tuple #[], by kernel_rfl, rfl, ?_⟩
  exact Sp.of (by repeat (first | assumption | exact Below.refl _ _ | apply Below.drew | apply below_drewN | apply balloc | (refine Below.setCell ?_ (by first | omega | (simp <;> omega)) _)))
set_option maxHeartbeats 1000000 in
set_option maxRecDepth 100000 in
theorem sp_flag (P : Nat) (b : Bool) {w0 : World} (lo hi : Nat) : SpC w0 lo hi (.iface 92 (.agg #[.int .i64 (P : Int), .bool b])) := by
  intro w _ _
  go_enter Tryz.func13, Tryz.ntmps13
  (go_wp2_with fail; repeat (any_goals (go_quiet (fail); go_wp2_with fail)))
  refine ⟨rfl, .tuple #[], by kernel_rfl, rfl, ?_⟩
  exact Sp.of (by repeat (first | assumption | exact Below.refl _ _ | apply Below.drew | apply below_drewN | apply balloc | (refine Below.setCell ?_ (by first | omega | (simp <;> omega)) _)))
set_option maxHeartbeats 1000000 in
set_option maxRecDepth 100000 in
theorem sp_num (P : Nat) (t : ByteArray) {w0 : World} (lo hi : Nat) : SpC w0 lo hi (.iface 94 (.agg #[.int .i64 (P : Int), .string t])) := by
  intro w _ _
  go_enter Tryz.func13, Tryz.ntmps13
  (go_wp2_with fail; repeat (any_goals (go_quiet (fail); go_wp2_with fail)))
  refine ⟨rfl, .tuple #[], by kernel_rfl, rfl, ?_⟩
  exact Sp.of (by repeat (first | assumption | exact Below.refl _ _ | apply Below.drew | apply below_drewN | apply balloc | (refine Below.setCell ?_ (by first | omega | (simp <;> omega)) _)))
set_option maxHeartbeats 1000000 in
set_option maxRecDepth 100000 in
theorem sp_text (P : Nat) (t : ByteArray) {w0 : World} (lo hi : Nat) : SpC w0 lo hi (.iface 95 (.agg #[.int .i64 (P : Int), .string t])) := by
  intro w _ _
  go_enter Tryz.func13, Tryz.ntmps13
  (go_wp2_with fail; repeat (any_goals (go_quiet (fail); go_wp2_with fail)))
  refine ⟨rfl, .tuple #[], by kernel_rfl, rfl, ?_⟩
  exact Sp.of (by repeat (first | assumption | exact Below.refl _ _ | apply Below.drew | apply below_drewN | apply balloc | (refine Below.setCell ?_ (by first | omega | (simp <;> omega)) _)))
/-- The row's cells from j on are as they were. -/
def RowK (va : Option Addr) (e : TypeId) (xs : List Value) (k : Nat) (w : World) : Prop := ∀ g, va = some ⟨g, 0, none⟩ → ∃ cur : Array Value, w.heap[g]? = some (.cells cur e (0, 0)) ∧ xs.length ≤ cur.size ∧ ∀ j u, k ≤ j → xs[j]? = some u → cur[j]? = some u
theorem row_k {w : World} {lo sz m c : Nat} {e : TypeId} {va : Option Addr} {xs : List Value} (h : w.ownsRow lo e sz (.slice va m c) m xs) : RowK va e xs 0 w := by
  intro g hg
  subst hg
  obtain ⟨h1, ⟨h2, _⟩ | ⟨g', cap', cur, h2, hbg, hg, hn, hc, hz, ht⟩⟩ := h
  · cases h2
  · cases h2
    refine ⟨cur, hg, ?_, fun j u _ hj => ?_⟩
    · have h5 := congrArg List.length ht
      rw [List.length_take] at h5
      have : cur.toList.length = cur.size := Array.length_toList
      omega
    · have hjl : j < xs.length := (List.getElem?_eq_some_iff.1 hj).1
      rw [← ht, List.getElem?_take_of_lt (by omega), Array.getElem?_toList] at hj
      exact hj
theorem RowK.cell {va : Option Addr} {e : TypeId} {xs : List Value} {k g j : Nat} {u : Value} {w : World} (h : RowK va e xs k w) (hg : va = some ⟨g, 0, none⟩) (hj : k ≤ j) (hu : xs[j]? = some u) : w.cell? ⟨g, j, none⟩ = some u := by
  obtain ⟨cur, h1, _, h2⟩ := h g hg
  exact cellB h1 j (h2 j u hj hu)
theorem RowK.free {va : Option Addr} {e : TypeId} {xs : List Value} {k g j : Nat} {w : World} (h : RowK va e xs k w) (hg : va = some ⟨g, 0, none⟩) : w.frozen? ⟨g, j, none⟩ = false := by
  obtain ⟨cur, h1, _⟩ := h g hg
  exact freeB h1 j
theorem RowK.keep {va : Option Addr} {e : TypeId} {xs : List Value} {k : Nat} {w w' : World} (h : RowK va e xs k w) (hk : ∀ g, va = some ⟨g, 0, none⟩ → w'.heap[g]? = w.heap[g]?) : RowK va e xs k w' := by
  intro g hg
  obtain ⟨cur, h1, h2⟩ := h g hg
  exact ⟨cur, (hk g hg).trans h1, h2⟩
theorem RowK.lt {va : Option Addr} {e : TypeId} {xs : List Value} {k g : Nat} {w : World} (h : RowK va e xs k w) (hg : va = some ⟨g, 0, none⟩) : g < w.heap.size := by
  obtain ⟨cur, h1, _⟩ := h g hg
  exact ltB h1
theorem RowK.set {va : Option Addr} {e : TypeId} {xs : List Value} {k g : Nat} {w : World} (h : RowK va e xs k w) (hg : va = some ⟨g, 0, none⟩) (j k' : Nat) (v : Value) (hk : k ≤ k') (hj : j < k') : RowK va e xs k' (w.setCell ⟨g, j, none⟩ v) := by
  intro g' hg'
  rw [hg] at hg'
  cases hg'
  obtain ⟨cur, h1, h2, h3⟩ := h g hg
  refine ⟨cur.setIfInBounds j v, by rw [Lib.heap_setCell_same (i := j) h1], by simpa using h2, fun i u hi hu => ?_⟩
  rw [Array.getElem?_setIfInBounds_ne (by omega)]
  exact h3 i u (by omega) hu
theorem pair_lt {cs : List Kid} (hp : cs.Pairwise fun a b => a.h ≤ b.l) {i j : Nat} {a b : Kid} (hij : i < j) (ha : cs[i]? = some a) (hb : cs[j]? = some b) : a.h ≤ b.l := by
  obtain ⟨h1, rfl⟩ := List.getElem?_eq_some_iff.1 ha
  obtain ⟨h2, rfl⟩ := List.getElem?_eq_some_iff.1 hb
  exact (List.pairwise_iff_getElem.1 hp) i j h1 h2 hij
set_option maxHeartbeats 4000000 in
set_option maxRecDepth 100000 in
theorem sp_lst {w0 : World} (lo hi P : Nat) (vr : Value) (cs : List Kid) (hr : w0.ownsRow lo 24 1 vr cs.length (cs.map Kid.u)) (hb0 : ∀ k, vr.ownBlock = some k → k < hi) (hk : ∀ c ∈ cs, c.fits lo hi vr.ownBlock) (hp : cs.Pairwise fun a b => a.h ≤ b.l)
    (hform : ∀ c ∈ cs, ∃ t a, c.u = .iface t a) (ih : ∀ c ∈ cs, SpC w0 c.l c.h c.u) : SpC w0 lo hi (.iface 98 (.agg #[.int .i64 (P : Int), vr])) := by
  intro w hw hh
  obtain ⟨m, hm⟩ : ∃ m, m = cs.length := ⟨_, rfl⟩
  rw [← hm] at hr
  obtain ⟨va, vc, rfl⟩ := rowForm hr
  have hnm : m ≤ maxLen := by
    rcases rowForm2 hr with ⟨h, _⟩ | ⟨g, cap, h, _, _, h1, h2⟩
    · omega
    · omega
  unfold maxLen at hnm
  have hnI : (m : Int) ≤ 9223372036854775807 := by omega
  have hcap : m ≤ vc := by
    rcases rowForm2 hr with ⟨h, h2⟩ | ⟨g, cap, h, _, _, h1, h2⟩
    · omega
    · cases h; exact h1
  have hr1 := Lib.hid (row_k (ownsRow_heap hr fun k e => hw k (hr.lt k e).1 (hb0 k e)))
  replace hr := Lib.hid hr
  replace hm := Lib.hid hm
  replace hw := Lib.hid hw
  replace hp := Lib.hid hp
  go_enter Tryz.func13, Tryz.ntmps13
  go_wp2_with fail
  go_loopw [15] (fun vs wr => ∃ k : Nat, k ≤ m ∧ vs = .int .i64 (k : Int) ∧ Hid (wr.heap[w.heap.size]? = some (.cells #[.int .i64 (P : Int), .slice va m vc] 98 (0, 0))) ∧ Hid (Sp lo hi w wr) ∧ Hid (RowK va 24 (cs.map Kid.u) (k * 1) wr) ∧ Hid (∀ (j : Nat) (c : Kid), k ≤ j → cs[j]? = some c → ∀ b, c.l ≤ b → b < c.h → wr.heap[b]? = w0.heap[b]?)) (fun v _ => m - (intOf v).toNat)
  case atStart =>
    refine ⟨0, Nat.zero_le _, rfl, Lib.hid (heap_alloc_new w _), Lib.hid (Sp.of (by repeat (first | assumption | exact Below.refl _ _ | apply Below.drew | apply below_drewN | apply balloc | (refine Below.setCell ?_ (by first | omega | (simp <;> omega)) _)))), Lib.hid ?_, Lib.hid (fun j c _ hc b h1 h2 => ?_)⟩
    · rw [Nat.zero_mul]
      exact hr1.out.keep fun g hg => (Below.refl w.heap.size w).alloc (Nat.le_refl _) _ |>.block g (hr1.out.lt hg)
    · have hf := hk c (List.mem_of_getElem? hc)
      exact (((Below.refl w.heap.size w).alloc (Nat.le_refl _) _).block b (by have := hf.2.2.1; omega)).trans (hw.out b (Nat.le_trans hf.1 h1) (Nat.lt_of_lt_of_le h2 hf.2.2.1))
  case round =>
    obtain ⟨k, hkn, rfl, hY, hS, hR, hI⟩ := hrel
    have hszr := hS.out.size
    by_cases hlt : k < m
    · have hltI : (k : Int) < (m : Int) := by omega
      obtain ⟨c, hc⟩ : ∃ c, cs[k]? = some c := ⟨cs[k]'(by rw [← hm.out]; exact hlt), List.getElem?_eq_getElem _⟩
      have hcm := List.mem_of_getElem? hc
      obtain ⟨g, rfl⟩ : ∃ g, va = some ⟨g, 0, none⟩ := by
        rcases rowForm2 hr.out with ⟨h, _⟩ | ⟨g, cap, h, _⟩
        · omega
        · cases h; exact ⟨g, rfl⟩
      have hgl : lo ≤ g ∧ g < hi := ⟨(hr.out.lt g rfl).1, hb0 g rfl⟩
      have hf := hk c hcm
      have hfg := hf.2.2.2 g rfl
      obtain ⟨ut, ua, hu⟩ := hform c hcm
      have q0 := hR.out.cell rfl (j := k) (by omega) (u := c.u) (by rw [List.getElem?_map, hc]; rfl)
      rw [hu] at q0
      have y1 := cellB hY.out 1 rfl
      have IC := ih c hcm wr (hI.out k c (Nat.le_refl _) hc) (by have := hf.2.2.1; omega)
      rw [hu] at IC
      replace IC := Lib.hid IC
      replace hu := Lib.hid hu
      replace hc := Lib.hid hc
      go_wp2_with fail
      refine IC.out.mono ?_
      rintro e w3 ⟨rfl, hs3⟩
      have hsz3 := hs3.size
      have hlt0 : w.heap.size < wr.heap.size := ltB hY.out
      have hY3 := hs3.keep hY.out (Or.inr (by have := hf.2.2.1; omega))
      have hR3 : RowK (some ⟨g, 0, none⟩) 24 (cs.map Kid.u) (k * 1) w3 := (hR.out).keep fun g' hg' => by
        cases hg'
        exact hs3.block g (hR.out.lt rfl) hfg
      have hS3 := (hS.out).sub hs3 hf.1 hf.2.2.1
      have hI3 : ∀ (j : Nat) (c' : Kid), k + 1 ≤ j → cs[j]? = some c' → ∀ b, c'.l ≤ b → b < c'.h → w3.heap[b]? = w0.heap[b]? := fun j c' hj hc' b h1 h2 => by
        have hq := pair_lt hp.out (show k < j by omega) hc.out hc'
        have hf' := hk c' (List.mem_of_getElem? hc')
        exact (hs3.block b (by have := hf'.2.2.1; omega) (Or.inr (Nat.le_trans hq h1))).trans (hI.out j c' (by omega) hc' b h1 h2)
      clear hR hS hY hI hs3 y1 q0
      have y1 := cellB hY3 1 rfl
      have q0 := hR3.cell rfl (j := k) (by omega) (u := c.u) (by rw [List.getElem?_map, hc.out]; rfl)
      have qf := hR3.free (j := k) rfl
      have hgl3 := hR3.lt rfl
      have hw3l := ltB hY3
      have hgy : g ≠ w.heap.size := by omega
      replace hY3 := Lib.hid hY3
      replace hR3 := Lib.hid hR3
      replace hS3 := Lib.hid hS3
      replace hI3 := Lib.hid hI3
      go_wp2_with fail
      go_roundw
      case measure => simp [intOf]; omega
      case rel =>
        refine ⟨k + 1, by omega, by go_num, Lib.hid ?_, Lib.hid ?_, Lib.hid ?_, Lib.hid (fun j c' hj hc' b h1 h2 => ?_)⟩
        · exact other hY3.out (Ne.symm hgy)
        · exact hS3.out.grown (grown_set _ g _ _) hgl.1 hgl.2
        · exact hR3.out.set rfl k _ _ (by omega) (by omega)
        · have hf' := hk c' (List.mem_of_getElem? hc')
          have hg' := hf'.2.2.2 g rfl
          exact (set_far _ _ _ (by omega)).trans (hI3.out j c' hj hc' b h1 h2)
    · obtain rfl : m = k := by omega
      have hlt' : ¬ (m : Int) < (m : Int) := by omega
      go_wp2_with fail
      refine ⟨rfl, .tuple #[], by kernel_rfl, rfl, ?_⟩
      exact hS.out
set_option maxHeartbeats 4000000 in
set_option maxRecDepth 100000 in
theorem sp_obj {w0 : World} (lo hi P : Nat) (vr : Value) (cs : List Kid) (hr : w0.ownsRow lo 103 3 vr cs.length (cs.flatMap memC)) (hb0 : ∀ k, vr.ownBlock = some k → k < hi) (hk : ∀ c ∈ cs, c.fits lo hi vr.ownBlock) (hp : cs.Pairwise fun a b => a.h ≤ b.l)
    (hform : ∀ c ∈ cs, ∃ t a, c.u = .iface t a) (ih : ∀ c ∈ cs, SpC w0 c.l c.h c.u) : SpC w0 lo hi (.iface 101 (.agg #[.int .i64 (P : Int), vr])) := by
  intro w hw hh
  obtain ⟨m, hm⟩ : ∃ m, m = cs.length := ⟨_, rfl⟩
  rw [← hm] at hr
  obtain ⟨va, vc, rfl⟩ := rowForm hr
  have hnm : m ≤ maxLen := by
    rcases rowForm2 hr with ⟨h, _⟩ | ⟨g, cap, h, _, _, h1, h2⟩
    · omega
    · omega
  unfold maxLen at hnm
  have hnI : (m : Int) ≤ 9223372036854775807 := by omega
  have hcap : m ≤ vc := by
    rcases rowForm2 hr with ⟨h, h2⟩ | ⟨g, cap, h, _, _, h1, h2⟩
    · omega
    · cases h; exact h1
  have hr1 := Lib.hid (row_k (ownsRow_heap hr fun k e => hw k (hr.lt k e).1 (hb0 k e)))
  replace hr := Lib.hid hr
  replace hm := Lib.hid hm
  replace hw := Lib.hid hw
  replace hp := Lib.hid hp
  go_enter Tryz.func13, Tryz.ntmps13
  go_wp2_with fail
  go_loopw [35] (fun vs wr => ∃ k : Nat, k ≤ m ∧ vs = .int .i64 (k : Int) ∧ Hid (wr.heap[w.heap.size]? = some (.cells #[.int .i64 (P : Int), .slice va m vc] 101 (0, 0))) ∧ Hid (Sp lo hi w wr) ∧ Hid (RowK va 103 (cs.flatMap memC) (k * 3) wr) ∧ Hid (∀ (j : Nat) (c : Kid), k ≤ j → cs[j]? = some c → ∀ b, c.l ≤ b → b < c.h → wr.heap[b]? = w0.heap[b]?)) (fun v _ => m - (intOf v).toNat)
  case atStart =>
    refine ⟨0, Nat.zero_le _, rfl, Lib.hid (heap_alloc_new w _), Lib.hid (Sp.of (by repeat (first | assumption | exact Below.refl _ _ | apply Below.drew | apply below_drewN | apply balloc | (refine Below.setCell ?_ (by first | omega | (simp <;> omega)) _)))), Lib.hid ?_, Lib.hid (fun j c _ hc b h1 h2 => ?_)⟩
    · rw [Nat.zero_mul]
      exact hr1.out.keep fun g hg => (Below.refl w.heap.size w).alloc (Nat.le_refl _) _ |>.block g (hr1.out.lt hg)
    · have hf := hk c (List.mem_of_getElem? hc)
      exact (((Below.refl w.heap.size w).alloc (Nat.le_refl _) _).block b (by have := hf.2.2.1; omega)).trans (hw.out b (Nat.le_trans hf.1 h1) (Nat.lt_of_lt_of_le h2 hf.2.2.1))
  case round =>
    obtain ⟨k, hkn, rfl, hY, hS, hR, hI⟩ := hrel
    have hszr := hS.out.size
    by_cases hlt : k < m
    · have hltI : (k : Int) < (m : Int) := by omega
      obtain ⟨c, hc⟩ : ∃ c, cs[k]? = some c := ⟨cs[k]'(by rw [← hm.out]; exact hlt), List.getElem?_eq_getElem _⟩
      have hcm := List.mem_of_getElem? hc
      obtain ⟨g, rfl⟩ : ∃ g, va = some ⟨g, 0, none⟩ := by
        rcases rowForm2 hr.out with ⟨h, _⟩ | ⟨g, cap, h, _⟩
        · omega
        · cases h; exact ⟨g, rfl⟩
      have hgl : lo ≤ g ∧ g < hi := ⟨(hr.out.lt g rfl).1, hb0 g rfl⟩
      have hf := hk c hcm
      have hfg := hf.2.2.2 g rfl
      obtain ⟨ut, ua, hu⟩ := hform c hcm
      have hrd : ∀ i u, i < 3 → (memC c)[i]? = some u → wr.cell? ⟨g, k * 3 + i, none⟩ = some u := fun i u hi h => hR.out.cell rfl (by omega) ((flat_get3 cs k c i hc hi).trans h)
      have q0 : wr.cell? ⟨g, k * 3, none⟩ = _ := hrd 0 _ (by decide) rfl
      have q1 := hrd 1 _ (by decide) rfl
      have q2 := hrd 2 _ (by decide) rfl
      rw [hu] at q2
      clear hrd
      have y1 := cellB hY.out 1 rfl
      have IC := ih c hcm (wr.alloc (.cells #[.string c.key, .int .i64 (c.pl : Int), c.u] 103 (0, 0))) (fun b h1 h2 => (Below.heap_alloc _ _ _ (by have := hf.2.2.1; omega)).trans (hI.out k c (Nat.le_refl _) hc b h1 h2)) (by have := hf.2.2.1; simp; omega)
      rw [hu] at IC
      replace IC := Lib.hid IC
      replace hu := Lib.hid hu
      replace hc := Lib.hid hc
      go_wp2_with fail
      refine IC.out.mono ?_
      rintro e w3 ⟨rfl, hs3⟩
      have hsz3 := hs3.size
      have hlt0 : w.heap.size < wr.heap.size := ltB hY.out
      have hY3 := hs3.keep (al_keep hY.out) (Or.inr (by have := hf.2.2.1; omega))
      have hR3 : RowK (some ⟨g, 0, none⟩) 103 (cs.flatMap memC) (k * 3) w3 := (hR.out.keep (w' := wr.alloc (.cells #[.string c.key, .int .i64 (c.pl : Int), .iface ut ua] 103 (0, 0))) fun g' hg' => Below.heap_alloc _ _ _ (hR.out.lt hg')).keep fun g' hg' => by
        cases hg'
        exact hs3.block g (by have := hR.out.lt rfl; simp; omega) hfg
      have hS3 := (hS.out.below (balloc (o := (.cells #[.string c.key, .int .i64 (c.pl : Int), .iface ut ua] 103 (0, 0))) (Below.refl _ _))).sub hs3 hf.1 hf.2.2.1
      have hI3 : ∀ (j : Nat) (c' : Kid), k + 1 ≤ j → cs[j]? = some c' → ∀ b, c'.l ≤ b → b < c'.h → w3.heap[b]? = w0.heap[b]? := fun j c' hj hc' b h1 h2 => by
        have hq := pair_lt hp.out (show k < j by omega) hc.out hc'
        have hf' := hk c' (List.mem_of_getElem? hc')
        exact (hs3.block b (by have := hf'.2.2.1; simp; omega) (Or.inr (Nat.le_trans hq h1))).trans ((Below.heap_alloc _ _ _ (by have := hf'.2.2.1; omega)).trans (hI.out j c' (by omega) hc' b h1 h2))
      clear hR hS hY hI hs3 y1 q0 q1 q2
      have y1 := cellB hY3 1 rfl
      have hrd : ∀ i u, i < 3 → (memC c)[i]? = some u → w3.cell? ⟨g, k * 3 + i, none⟩ = some u := fun i u hi h => hR3.cell rfl (by omega) ((flat_get3 cs k c i hc.out hi).trans h)
      have q0 : w3.cell? ⟨g, k * 3, none⟩ = _ := hrd 0 _ (by decide) rfl
      have q1 := hrd 1 _ (by decide) rfl
      have q2 := hrd 2 _ (by decide) rfl
      have qf0 := hR3.free (j := k * 3) rfl
      have qf1 := hR3.free (j := k * 3 + 1) rfl
      have qf2 := hR3.free (j := k * 3 + 2) rfl
      clear hrd
      have hgl3 := hR3.lt rfl
      have hw3l := ltB hY3
      have hgy : g ≠ w.heap.size := by omega
      replace hY3 := Lib.hid hY3
      replace hR3 := Lib.hid hR3
      replace hS3 := Lib.hid hS3
      replace hI3 := Lib.hid hI3
      go_wp2_with fail
      go_roundw
      case measure => simp [intOf]; omega
      case rel =>
        refine ⟨k + 1, by omega, by go_num, Lib.hid ?_, Lib.hid ?_, Lib.hid ?_, Lib.hid (fun j c' hj hc' b h1 h2 => ?_)⟩
        · exact other (other (other hY3.out (Ne.symm hgy)) (Ne.symm hgy)) (Ne.symm hgy)
        · exact ((hS3.out.grown (grown_set _ g _ _) hgl.1 hgl.2).grown (grown_set _ g _ _) hgl.1 hgl.2).grown (grown_set _ g _ _) hgl.1 hgl.2
        · exact ((hR3.out.set rfl (k * 3) ((k + 1) * 3) _ (by omega) (by omega)).set rfl (k * 3 + 1) ((k + 1) * 3) _ (by omega) (by omega)).set rfl (k * 3 + 2) ((k + 1) * 3) _ (by omega) (by omega)
        · have hf' := hk c' (List.mem_of_getElem? hc')
          have hg' := hf'.2.2.2 g rfl
          exact ((set_far _ _ _ (by omega)).trans ((set_far _ _ _ (by omega)).trans (set_far _ _ _ (by omega)))).trans (hI3.out j c' hj hc' b h1 h2)
    · obtain rfl : m = k := by omega
      have hlt' : ¬ (m : Int) < (m : Int) := by omega
      go_wp2_with fail
      refine ⟨rfl, .tuple #[], by kernel_rfl, rfl, ?_⟩
      exact hS.out
theorem spoil_calls {w0 : World} {lo hi : Nat} {u : Value} {x : Nd} (h : OwnN w0 lo hi u x) : SpC w0 lo hi u := by
  induction h with
  | null lo hi p => exact sp_null p lo hi
  | flag lo hi p b => exact sp_flag p b lo hi
  | num lo hi p t => exact sp_num p t lo hi
  | text lo hi p t => exact sp_text p t lo hi
  | lst lo hi p v cs ho hb hk hp hc ih => exact sp_lst lo hi p v cs ho hb hk hp (fun c hm => (hc c hm).form) ih
  | obj lo hi p v cs ho hb hk hp hc ih => exact sp_obj lo hi p v cs ho hb hk hp (fun c hm => (hc c hm).form) ih

end Go.Proofs.YtibopkodoidjoaaGreatDoor

/- Package tree: kind, names, Name. -/
namespace Go.Proofs.YtibopkodoidjoaaGreatDoor
open Go Go.RowKit

/-- The number of a node's name. -/
def nameN : Nd → Nat
  | .null _ => 0
  | .flag _ _ => 1
  | .num _ _ => 2
  | .text _ _ => 3
  | .lst _ _ => 4
  | .obj _ _ => 5
def nameV : Array Value := #[.string ⟨#[110, 117, 108, 108]⟩, .string ⟨#[102, 108, 97, 103]⟩, .string ⟨#[110, 117, 109, 98, 101, 114]⟩, .string ⟨#[116, 101, 120, 116]⟩, .string ⟨#[108, 105, 115, 116]⟩, .string ⟨#[111, 98, 106, 101, 99, 116]⟩]
def nameS (n : Nat) : ByteArray := match n with | 0 => ⟨#[110, 117, 108, 108]⟩ | 1 => ⟨#[102, 108, 97, 103]⟩ | 2 => ⟨#[110, 117, 109, 98, 101, 114]⟩ | 3 => ⟨#[116, 101, 120, 116]⟩ | 4 => ⟨#[108, 105, 115, 116]⟩ | _ => ⟨#[111, 98, 106, 101, 99, 116]⟩
set_option maxHeartbeats 1000000 in
set_option maxRecDepth 100000 in
theorem kind_calls {w0 : World} {lo hi : Nat} {u : Value} {x : Nd} (h : OwnN w0 lo hi u x) (w : World) :
    Calls Tryz.prog 41 #[u] w fun e w' => e = .returned (.int .i64 (nameN x : Int)) ∧ Below w.heap.size w w' := by
  cases h with
  | null p =>
    go_enter Tryz.func41, Tryz.ntmps41
    (go_wp2_with fail; repeat (any_goals (go_quiet (fail); go_wp2_with fail)))
    go_ret
    exact ⟨rfl, (by repeat (first | assumption | exact Below.refl _ _ | apply Below.drew | apply below_drewN | apply balloc | (refine Below.setCell ?_ (by first | omega | (simp <;> omega)) _)))⟩
  | flag p b =>
    go_enter Tryz.func41, Tryz.ntmps41
    (go_wp2_with fail; repeat (any_goals (go_quiet (fail); go_wp2_with fail)))
    go_ret
    exact ⟨rfl, (by repeat (first | assumption | exact Below.refl _ _ | apply Below.drew | apply below_drewN | apply balloc | (refine Below.setCell ?_ (by first | omega | (simp <;> omega)) _)))⟩
  | num p t =>
    go_enter Tryz.func41, Tryz.ntmps41
    (go_wp2_with fail; repeat (any_goals (go_quiet (fail); go_wp2_with fail)))
    go_ret
    exact ⟨rfl, (by repeat (first | assumption | exact Below.refl _ _ | apply Below.drew | apply below_drewN | apply balloc | (refine Below.setCell ?_ (by first | omega | (simp <;> omega)) _)))⟩
  | text p t =>
    go_enter Tryz.func41, Tryz.ntmps41
    (go_wp2_with fail; repeat (any_goals (go_quiet (fail); go_wp2_with fail)))
    go_ret
    exact ⟨rfl, (by repeat (first | assumption | exact Below.refl _ _ | apply Below.drew | apply below_drewN | apply balloc | (refine Below.setCell ?_ (by first | omega | (simp <;> omega)) _)))⟩
  | lst _ _ p v cs ho hb hk hp hc =>
    clear ho hb hk hp hc
    go_enter Tryz.func41, Tryz.ntmps41
    (go_wp2_with fail; repeat (any_goals (go_quiet (fail); go_wp2_with fail)))
    go_ret
    exact ⟨rfl, (by repeat (first | assumption | exact Below.refl _ _ | apply Below.drew | apply below_drewN | apply balloc | (refine Below.setCell ?_ (by first | omega | (simp <;> omega)) _)))⟩
  | obj _ _ p v cs ho hb hk hp hc =>
    clear ho hb hk hp hc
    go_enter Tryz.func41, Tryz.ntmps41
    (go_wp2_with fail; repeat (any_goals (go_quiet (fail); go_wp2_with fail)))
    go_ret
    exact ⟨rfl, (by repeat (first | assumption | exact Below.refl _ _ | apply Below.drew | apply below_drewN | apply balloc | (refine Below.setCell ?_ (by first | omega | (simp <;> omega)) _)))⟩
set_option maxHeartbeats 1000000 in
theorem names_calls (w : World) : Calls Tryz.prog 40 #[] w fun e w' => e = .returned (.agg nameV) ∧ Below w.heap.size w w' := by
  go_enter Tryz.func40, Tryz.ntmps40
  (go_wp2_with fail; repeat (any_goals (go_quiet (fail); go_wp2_with fail)))
  exact bodyPost_ret (v := .agg nameV) (by simp [results, Tryz.results40, go_sem, nameV]) rfl ⟨rfl, (by repeat (first | assumption | exact Below.refl _ _ | apply Below.drew | apply below_drewN | apply balloc | (refine Below.setCell ?_ (by first | omega | (simp <;> omega)) _)))⟩
theorem name_index (n : Nat) (h : n < 6) (w : World) : (Instr.index 107 (.agg nameV) (.int .i64 (n : Int))).run Tryz.prog w = .ok (.string (nameS n)) w := by
  rcases (show n = 0 ∨ n = 1 ∨ n = 2 ∨ n = 3 ∨ n = 4 ∨ n = 5 by omega) with rfl | rfl | rfl | rfl | rfl | rfl <;> kernel_rfl
theorem nameN_lt (x : Nd) : nameN x < 6 := by cases x <;> simp [nameN]
set_option maxHeartbeats 1000000 in
set_option maxRecDepth 100000 in
theorem Name_calls {A : Nat → Addr} {B : Nat} (s : ByteArray) (w : World) (hE : Env A B SVN w) (hs : s.size ≤ 3518437208882) :
    Calls Tryz.prog 16 #[.string s] w fun e w' => ErrR A w.heap.size (parseS s) (.string (nameS (match parseS s with | .ok x _ => nameN x | _ => 0))) (.string ⟨#[]⟩) e w' ∧ Below w.heap.size w w' := by
  have P := Lib.hid (fun w hE => Parse_calls (A := A) (B := B) s w hE (by omega))
  replace hE := Lib.hid hE
  generalize parseS s = R at *
  cases R with
  | out =>
    go_enter Tryz.func16, Tryz.ntmps16
    (go_wp2_with fail; repeat (any_goals (go_quiet (fail); go_wp2_with fail)))
    refine (P.out _ (hE.out.next (by repeat (first | assumption | exact Below.refl _ _ | apply Below.drew | apply below_drewN | apply balloc | (refine Below.setCell ?_ (by first | omega | (simp <;> omega)) _))))).mono ?_
    rintro e w1 ⟨hr, hb⟩
    exact hr.elim
  | err k pl =>
    go_enter Tryz.func16, Tryz.ntmps16
    (go_wp2_with fail; repeat (any_goals (go_quiet (fail); go_wp2_with fail)))
    refine (P.out _ (hE.out.next (by repeat (first | assumption | exact Below.refl _ _ | apply Below.drew | apply below_drewN | apply balloc | (refine Below.setCell ?_ (by first | omega | (simp <;> omega)) _))))).mono ?_
    rintro e w1 ⟨⟨g, hg, rfl, hat⟩, hb⟩
    have hb1 : Below w.heap.size w w1 := bcall (by repeat (first | assumption | exact Below.refl _ _ | apply Below.drew | apply below_drewN | apply balloc | (refine Below.setCell ?_ (by first | omega | (simp <;> omega)) _))) hb
    replace hat := Lib.hid hat
    (go_wp2_with fail; repeat (any_goals (go_quiet (fail); go_wp2_with fail)))
    go_ret2
    exact ⟨⟨g, hg, rfl, hat.out⟩, hb1⟩
  | ok x q =>
    dsimp only
    have hix := name_index (nameN x) (nameN_lt x)
    have NC := Lib.hid names_calls
    have KC : Hid (∀ w0 lo hi u, OwnN w0 lo hi u x → ∀ w, Calls Tryz.prog 41 #[u] w fun e w' => e = .returned (.int .i64 (nameN x : Int)) ∧ Below w.heap.size w w') := Lib.hid (fun _ _ _ _ h w => kind_calls h w)
    generalize nameN x = n at *
    generalize nameS n = ns at *
    generalize nameV = nv at *
    go_enter Tryz.func16, Tryz.ntmps16
    (go_wp2_with fail; repeat (any_goals (go_quiet (fail); go_wp2_with fail)))
    refine (P.out _ (hE.out.next (by repeat (first | assumption | exact Below.refl _ _ | apply Below.drew | apply below_drewN | apply balloc | (refine Below.setCell ?_ (by first | omega | (simp <;> omega)) _))))).mono ?_
    rintro e w1 ⟨⟨u, rfl, hN⟩, hb⟩
    have hb1 : Below w.heap.size w w1 := bcall (by repeat (first | assumption | exact Below.refl _ _ | apply Below.drew | apply below_drewN | apply balloc | (refine Below.setCell ?_ (by first | omega | (simp <;> omega)) _))) hb
    obtain ⟨ut, ua, rfl⟩ := hN.form
    replace hN := Lib.hid hN
    go_wp2_with fail
    refine (NC.out _).mono ?_
    rintro e w2 ⟨rfl, hb⟩
    have hb2 : Below w.heap.size w w2 := bcall hb1 hb
    clear hb
    go_wp2_with fail
    refine (KC.out _ _ _ _ hN.out _).mono ?_
    rintro e w3 ⟨rfl, hb⟩
    have hb3 : Below w.heap.size w w3 := bcall hb2 hb
    clear hb
    go_wp2_with fail
    go_ret2
    exact ⟨rfl, hb3⟩

end Go.Proofs.YtibopkodoidjoaaGreatDoor

/- errors.As at the target **api.At, the error an *api.At: Go's own text walked. (Lines of the kit's worked example of errors.As, turned to this program.) -/
namespace Go.Proofs.YtibopkodoidjoaaGreatDoor
open Go Go.RowKit Go.Extern.Stop Go.Stop Go.Extern

theorem asvalueOf27 (t : Addr) (w : World) : (ReflectliteValue.unpack (.iface 84 (.pointer (some t)))).run Tryz.prog w
    = .ok (.agg #[.pointer (some ⟨28, 84, none⟩), .pointer (some ⟨w.heap.size, 0, none⟩), .int .u64 150]) (w.alloc (.cells #[.pointer (some t)] 84)) := by kernel_rfl
theorem astype27 (a : Addr) (w : World) : (ReflectliteValue.methodAny (ReflectliteValue.valueError "reflectlite.Value.Type" 0) (fun t _ _ _ => ReflectliteType.toType t) #[.agg #[.pointer (some ⟨28, 84, none⟩), .pointer (some a), .int .u64 150]]).run Tryz.prog w
    = .ok (.iface 169 (.agg #[.pointer (some ⟨28, 84, none⟩)])) w := by kernel_rfl
theorem asmethodKind (d : Nat) (h : Value) (w : World) : (Go.method (d + 8) 169 (.agg #[h]) "Kind").run Tryz.prog w = .ok (169, h) w := by kernel_rfl
theorem askind27 (w : World) : ((ReflectliteType.abiMethod fun t => (fun a : Nat => Value.int IntKind.u8 (a : Int)) <$> Rtype.kind t) #[.pointer (some ⟨28, 84, none⟩)]).run Tryz.prog w = .ok (.int .u8 22) w := by kernel_rfl
theorem askind25 (w : World) : ((ReflectliteType.abiMethod fun t => (fun a : Nat => Value.int IntKind.u8 (a : Int)) <$> Rtype.kind t) #[.pointer (some ⟨28, 69, none⟩)]).run Tryz.prog w = .ok (.int .u8 22) w := by kernel_rfl

theorem rlm (z : Sem Value) (f : TypeId → Addr → Nat → Nat → Sem Value) (v : Value) :
    ReflectliteValue.method z f #[v] = (do match ← ReflectliteValue.parts v with | none => z | some (t, a, fl) => f t a fl (fl % 32)) := rfl
theorem asparts27 (a : Addr) (w : World) : (ReflectliteValue.parts (.agg #[.pointer (some ⟨28, 84, none⟩), .pointer (some a), .int .u64 150])).run Tryz.prog w = .ok (some (84, a, 150)) w := by kernel_rfl
theorem asisNil27 (a p : Addr) (W : World) (ha : W.cell? a = some (.pointer (some p))) :
    (ReflectliteValue.method (ReflectliteValue.valueError "reflectlite.Value.IsNil" 0) ReflectliteValue.isNil #[.agg #[.pointer (some ⟨28, 84, none⟩), .pointer (some a), .int .u64 150]]).run Tryz.prog W = .ok (.bool false) W := by
  rw [rlm]
  simp only [Sem.run_bind, asparts27, Result.andThen]
  simp [ReflectliteValue.isNil, loadVar, isAgg, underlying, Tryz.underlying84, ha, Result.andThen]

theorem asmethodElem (d : Nat) (h : Value) (w : World) : (Go.method (d + 8) 169 (.agg #[h]) "Elem").run Tryz.prog w = .ok (181, .agg #[h]) w := by kernel_rfl
theorem asmethodImplements (d : Nat) (h : Value) (w : World) : (Go.method (d + 8) 169 (.agg #[h]) "Implements").run Tryz.prog w = .ok (182, .agg #[h]) w := by kernel_rfl
theorem asmethodAssignableTo (d : Nat) (h : Value) (w : World) : (Go.method (d + 8) 169 (.agg #[h]) "AssignableTo").run Tryz.prog w = .ok (179, .agg #[h]) w := by kernel_rfl
theorem aselem27 (w : World) : (ReflectliteType.method ReflectliteType.elem #[.agg #[.pointer (some ⟨28, 84, none⟩)]]).run Tryz.prog w = .ok (.iface 169 (.agg #[.pointer (some ⟨28, 69, none⟩)])) w := by kernel_rfl
theorem asimplements25 (w : World) : (ReflectliteType.relation "Implements" ReflectliteType.implements_ #[.agg #[.pointer (some ⟨28, 69, none⟩)], .iface 169 (.agg #[.pointer (some ⟨28, 26, none⟩)])]).run Tryz.prog w = .ok (.bool true) w := by kernel_rfl
theorem astypeOf25 (v : Value) (w : World) : (ReflectliteType.typeOf #[.iface 69 v]).run Tryz.prog w = .ok (.iface 169 (.agg #[.pointer (some ⟨28, 69, none⟩)])) w := by kernel_rfl
theorem asassignable25 (w : World) : (ReflectliteType.relation "AssignableTo" ReflectliteType.assignableTo #[.agg #[.pointer (some ⟨28, 69, none⟩)], .iface 169 (.agg #[.pointer (some ⟨28, 69, none⟩)])]).run Tryz.prog w = .ok (.bool true) w := by kernel_rfl
theorem asvalueOf25 (e : Addr) (w : World) : (ReflectliteValue.unpack (.iface 69 (.pointer (some e)))).run Tryz.prog w
    = .ok (.agg #[.pointer (some ⟨28, 69, none⟩), .pointer (some ⟨w.heap.size, 0, none⟩), .int .u64 150]) (w.alloc (.cells #[.pointer (some e)] 69)) := by kernel_rfl

theorem aselemOf27 (w : World) : (Rtype.elem? 84).run Tryz.prog w = .ok (some 69) w := by kernel_rfl
theorem asmk25 (p : Addr) (w : World) : (ReflectliteValue.mk 69 p ReflectliteValue.flagAddr).run Tryz.prog w = .ok (.agg #[.pointer (some ⟨28, 69, none⟩), .pointer (some p), .int .u64 406]) w := by kernel_rfl
theorem aselemV27 (a p : Addr) (W : World) (ha : W.cell? a = some (.pointer (some p))) :
    (ReflectliteValue.method (ReflectliteValue.valueError "reflectlite.Value.Elem" 0) ReflectliteValue.elem #[.agg #[.pointer (some ⟨28, 84, none⟩), .pointer (some a), .int .u64 150]]).run Tryz.prog W
      = .ok (.agg #[.pointer (some ⟨28, 69, none⟩), .pointer (some p), .int .u64 406]) W := by
  rw [rlm]
  simp only [Sem.run_bind, asparts27, Result.andThen]
  simp [ReflectliteValue.elem, loadVar, isAgg, underlying, Tryz.underlying84, ha, Result.andThen, aselemOf27, asmk25]
theorem rls (v x : Value) : ReflectliteValue.set #[v, x] = (do
    let (some (dst, a, fl), some (src, b, _)) := (← ReflectliteValue.parts v, ← ReflectliteValue.parts x)
      | unsupported (.noEntry "extern/(internal/reflectlite.Value).Set.zeroValue")
    if fl / ReflectliteValue.flagAddr % 2 == 0 then unsupported (.noEntry "extern/(internal/reflectlite.Value).Set.unaddressable")
    let val ← loadVar src b
    if ← Rtype.directlyAssignable dst src then storeVar dst a val
    else if ← Rtype.implements dst src then
      if (← Rtype.kind src) == 20 then
        match val with
        | .nilIface => unsupported (.noEntry "extern/reflectlite: a nil value of one interface type handed on as a value of another")
        | _ => storeVar dst a val
      else storeVar dst a (.iface src val)
    else panicString ("reflectlite.Set: value of type " ++ (← Rtype.spelt src) ++ " is not assignable to type " ++ (← Rtype.spelt dst))
    pure (.tuple #[])) := rfl
theorem asparts25a (a : Addr) (w : World) : (ReflectliteValue.parts (.agg #[.pointer (some ⟨28, 69, none⟩), .pointer (some a), .int .u64 406])).run Tryz.prog w = .ok (some (69, a, 406)) w := by kernel_rfl
theorem asparts25 (a : Addr) (w : World) : (ReflectliteValue.parts (.agg #[.pointer (some ⟨28, 69, none⟩), .pointer (some a), .int .u64 150])).run Tryz.prog w = .ok (some (69, a, 150)) w := by kernel_rfl
theorem asdirect25 (w : World) : (Rtype.directlyAssignable 69 69).run Tryz.prog w = .ok true w := by kernel_rfl
theorem assize25 (w : World) : (sizeOf 69).run Tryz.prog w = .ok 1 w := by kernel_rfl
theorem asset25 (ta b e : Addr) (old : Value) (W : World) (hb : W.cell? b = some (.pointer (some e))) (ht : W.cell? ta = some old) (hf : W.frozen? ta = false) :
    (ReflectliteValue.set #[.agg #[.pointer (some ⟨28, 69, none⟩), .pointer (some ta), .int .u64 406], .agg #[.pointer (some ⟨28, 69, none⟩), .pointer (some b), .int .u64 150]]).run Tryz.prog W
      = .ok (.tuple #[]) (W.setCell ta (.pointer (some e))) := by
  rw [rls]
  simp only [Sem.run_bind, asparts25a, asparts25, Result.andThen]
  simp [ReflectliteValue.flagAddr, loadVar, isAgg, underlying, Tryz.underlying69, hb, Result.andThen, asdirect25, storeVar, Value.cells, storeCells, Addr.add]
  rw [run_store Tryz.prog W ta _ _ (by rfl)]
  simp [ht, hf]

set_option maxHeartbeats 4000000 in
theorem as_hit (e t : Addr) (old : Value) (w : World) (hg : w.cell? ⟨2, 0, none⟩ = some (.iface 169 (.agg #[.pointer (some ⟨28, 26, none⟩)]))) (ht0 : w.cell? t = some old) (hf0 : w.frozen? t = false) :
    Calls Tryz.prog 37 #[.iface 69 (.pointer (some e)), .iface 84 (.pointer (some t))] w fun ev w' => ev = .returned (.bool true) ∧ w' = ((((w.alloc (.cells #[.pointer (some t)] 84)).alloc (.cells #[.pointer (some ⟨28, 84, none⟩), .pointer (some ⟨w.heap.size, 0, none⟩), .int .u64 150] 132)).alloc (.cells #[.pointer (some ⟨28, 84, none⟩), .pointer (some ⟨w.heap.size, 0, none⟩), .int .u64 150] 132)).alloc (.cells #[.pointer (some e)] 69)).setCell t (.pointer (some e)) := by
  have h6 := @run_callFunc_extern Tryz.prog 64 _ (fun args => ReflectliteValue.unpack (args.getD 0 (.tuple #[]))) Tryz.func64 (by kernel_rfl) (by kernel_rfl) (by kernel_rfl) (by kernel_rfl)
  have h7 := @run_callFunc_extern Tryz.prog 65 _ (ReflectliteValue.methodAny (ReflectliteValue.valueError "reflectlite.Value.Type" 0) (fun t _ _ _ => ReflectliteType.toType t)) Tryz.func65 (by kernel_rfl) (by kernel_rfl) (by kernel_rfl) (by kernel_rfl)
  have h8 := @run_callFunc_extern Tryz.prog 66 _ (ReflectliteValue.method (ReflectliteValue.valueError "reflectlite.Value.IsNil" 0) ReflectliteValue.isNil) Tryz.func66 (by kernel_rfl) (by kernel_rfl) (by kernel_rfl) (by kernel_rfl)
  have h27 := @run_callFunc_extern Tryz.prog 169 _ (ReflectliteType.abiMethod fun t => do pure (.int .u8 (← Rtype.kind t))) Tryz.func169 (by kernel_rfl) (by kernel_rfl) (by kernel_rfl) (by kernel_rfl)
  have h37 := @run_callFunc_extern Tryz.prog 181 _ (ReflectliteType.method ReflectliteType.elem) Tryz.func181 (by kernel_rfl) (by kernel_rfl) (by kernel_rfl) (by kernel_rfl)
  have h38 := @run_callFunc_extern Tryz.prog 182 _ (ReflectliteType.relation "Implements" ReflectliteType.implements_) Tryz.func182 (by kernel_rfl) (by kernel_rfl) (by kernel_rfl) (by kernel_rfl)
  have h10 := @run_callFunc_extern Tryz.prog 85 _ ReflectliteType.typeOf Tryz.func85 (by kernel_rfl) (by kernel_rfl) (by kernel_rfl) (by kernel_rfl)
  have h35 := @run_callFunc_extern Tryz.prog 179 _ (ReflectliteType.relation "AssignableTo" ReflectliteType.assignableTo) Tryz.func179 (by kernel_rfl) (by kernel_rfl) (by kernel_rfl) (by kernel_rfl)
  have h11 := @run_callFunc_extern Tryz.prog 86 _ (ReflectliteValue.method (ReflectliteValue.valueError "reflectlite.Value.Elem" 0) ReflectliteValue.elem) Tryz.func86 (by kernel_rfl) (by kernel_rfl) (by kernel_rfl) (by kernel_rfl)
  have h12 := @run_callFunc_extern Tryz.prog 87 _ ReflectliteValue.set Tryz.func87 (by kernel_rfl) (by kernel_rfl) (by kernel_rfl) (by kernel_rfl)
  have tO := astypeOf25
  have mA := asmethodAssignableTo
  have a25 := asassignable25
  have v25 := asvalueOf25
  have f6 := asvalueOf27
  have f7 := astype27
  have mK := asmethodKind
  have mE := asmethodElem
  have mI := asmethodImplements
  have k27 := askind27
  have k25 := askind25
  have e27 := aselem27
  have i25 := asimplements25
  have n8 := asisNil27 ⟨w.heap.size, 0, none⟩ t ((w.alloc (.cells #[.pointer (some t)] 84)).alloc (.cells #[.pointer (some ⟨28, 84, none⟩), .pointer (some ⟨w.heap.size, 0, none⟩), .int .u64 150] 132)) (by simp)
  have hlt : 2 < w.heap.size := by
    rcases Nat.lt_or_ge 2 w.heap.size with h | h
    · exact h
    · simp [World.cell?, Array.getElem?_eq_none h] at hg
  have hg2 : ((w.alloc (.cells #[.pointer (some t)] 84)).alloc (.cells #[.pointer (some ⟨28, 84, none⟩), .pointer (some ⟨w.heap.size, 0, none⟩), .int .u64 150] 132)).cell? ⟨2, 0, none⟩ = some (.iface 169 (.agg #[.pointer (some ⟨28, 26, none⟩)])) := by
    rw [World.cell?_alloc_lt _ _ ⟨2, 0, none⟩ (by simp <;> omega), World.cell?_alloc_lt _ _ ⟨2, 0, none⟩ hlt]; exact hg
  have htl : t.block < w.heap.size := by
    rcases Nat.lt_or_ge t.block w.heap.size with h | h
    · exact h
    · simp [World.cell?, Array.getElem?_eq_none h] at ht0
  have el := aselemV27 ⟨w.heap.size, 0, none⟩ t (((w.alloc (.cells #[.pointer (some t)] 84)).alloc (.cells #[.pointer (some ⟨28, 84, none⟩), .pointer (some ⟨w.heap.size, 0, none⟩), .int .u64 150] 132)).alloc (.cells #[.pointer (some ⟨28, 84, none⟩), .pointer (some ⟨w.heap.size, 0, none⟩), .int .u64 150] 132)) (by rw [World.cell?_alloc_lt _ _ ⟨w.heap.size, 0, none⟩ (by simp; omega)]; simp)
  have st := asset25 t ⟨w.heap.size + 1 + 1 + 1, 0, none⟩ e old ((((w.alloc (.cells #[.pointer (some t)] 84)).alloc (.cells #[.pointer (some ⟨28, 84, none⟩), .pointer (some ⟨w.heap.size, 0, none⟩), .int .u64 150] 132)).alloc (.cells #[.pointer (some ⟨28, 84, none⟩), .pointer (some ⟨w.heap.size, 0, none⟩), .int .u64 150] 132)).alloc (.cells #[.pointer (some e)] 69))
    (by rw [World.cell?_alloc_at _ _ _ _ (by simp)]; rfl)
    (by rw [World.cell?_alloc_lt _ _ t (by simp; omega), World.cell?_alloc_lt _ _ t (by simp; omega), World.cell?_alloc_lt _ _ t (by simp; omega), World.cell?_alloc_lt _ _ t htl]; exact ht0)
    (by rw [World.frozen?_alloc_old _ _ t (by simp; omega), World.frozen?_alloc_old _ _ t (by simp; omega), World.frozen?_alloc_old _ _ t (by simp; omega), World.frozen?_alloc_old _ _ t (Nat.ne_of_lt htl)]; exact hf0)
  go_enter Tryz.func37, Tryz.ntmps37
  go_wp2
  refine wp_loop_rounds 1 ?_
  rw [rounds_succ]
  go_wp2
  go_ret
  exact ⟨rfl, rfl⟩

end Go.Proofs.YtibopkodoidjoaaGreatDoor

/- The statements of chapter 18: errors.As as a contract; lives. -/
namespace Go.Proofs.YtibopkodoidjoaaGreatDoor
open Go Go.RowKit

/-- The package variables, and that of package errors. -/
structure EnvA (A : Nat → Addr) (B : Nat) (w : World) : Prop where
  env : Env A B SVN w
  et : w.cell? ⟨2, 0, none⟩ = some (.iface 169 (.agg #[.pointer (some ⟨28, 26, none⟩)]))
  lt : 2 < B
theorem EnvA.next {A : Nat → Addr} {B : Nat} {w w' : World} (h : EnvA A B w) (hb : Below w.heap.size w w') : EnvA A B w' :=
  ⟨h.env.next hb, (hb.cell (p := ⟨_, _, none⟩) (Nat.lt_of_lt_of_le h.lt h.env.hB)).trans h.et, h.lt⟩
theorem EnvA.below {A : Nat → Addr} {B : Nat} {w w' : World} (h : EnvA A B w) (hb : Below B w w') : EnvA A B w' :=
  ⟨h.env.below hb, (hb.cell (p := ⟨_, _, none⟩) h.lt).trans h.et, h.lt⟩
theorem As_calls {A : Nat → Addr} {B : Nat} (g t : Nat) (old : Value) (w : World) (hE : EnvA A B w) (ht : w.heap[t]? = some (.cells #[old] 69 (0, 0))) :
    Calls Tryz.prog 37 #[.iface 69 (.pointer (some ⟨g, 0, none⟩)), .iface 84 (.pointer (some ⟨t, 0, none⟩))] w fun e w' => e = .returned (.bool true) ∧
      w'.heap[t]? = some (.cells #[.pointer (some ⟨g, 0, none⟩)] 69 (0, 0)) ∧ w.grownBy w' (some t) := by
  refine (as_hit ⟨g, 0, none⟩ ⟨t, 0, none⟩ old w hE.et (cellB ht 0 rfl) (freeB ht 0)).mono ?_
  rintro e w' ⟨rfl, rfl⟩
  refine ⟨rfl, ?_, ?_⟩
  · rw [Lib.heap_setCell_same (i := 0) (box_next (box_next (box_next (box_next ht ((Below.refl _ _).alloc (Nat.le_refl _) _)) ((Below.refl _ _).alloc (Nat.le_refl _) _)) ((Below.refl _ _).alloc (Nat.le_refl _) _)) ((Below.refl _ _).alloc (Nat.le_refl _) _))]
    rfl
  · exact grown_trans (grown_trans (grown_trans (grown_trans (World.grownBy_alloc _ _ _) (World.grownBy_alloc _ _ _)) (World.grownBy_alloc _ _ _)) (World.grownBy_alloc _ _ _)) (grown_set _ _ _ _)
/-- Two errors with places, and the two variables that errors.As fills. -/
structure AsS (A : Nat → Addr) (B : Nat) (w : World) (b1 b2 g1 g2 k : Nat) (p1 p2 : Int) (x1 x2 : Value) (W : World) : Prop where
  env : EnvA A B W
  bel : Below w.heap.size w W
  h1 : W.heap[b1]? = some (.cells #[x1] 69 (0, 0))
  h2 : W.heap[b2]? = some (.cells #[x2] 69 (0, 0))
  a1 : AtB p1 (.iface 237 (.pointer (some (A k)))) g1 W
  a2 : AtB p2 (.iface 237 (.pointer (some (A k)))) g2 W
  lt : w.heap.size ≤ b1 ∧ b1 < b2 ∧ g1 < b1 ∧ g2 < b1 ∧ B ≤ w.heap.size
theorem AsS.next {A : Nat → Addr} {B : Nat} {w : World} {b1 b2 g1 g2 k : Nat} {p1 p2 : Int} {x1 x2 : Value} {W W' : World} (h : AsS A B w b1 b2 g1 g2 k p1 p2 x1 x2 W) (hb : Below W.heap.size W W') : AsS A B w b1 b2 g1 g2 k p1 p2 x1 x2 W' :=
  ⟨h.env.next hb, bcall h.bel hb, box_next h.h1 hb, box_next h.h2 hb, box_next h.a1 hb, box_next h.a2 hb, h.lt⟩
theorem AsS.one {A : Nat → Addr} {B : Nat} {w : World} {b1 b2 g1 g2 k : Nat} {p1 p2 : Int} {x1 x2 y : Value} {W W' : World} (h : AsS A B w b1 b2 g1 g2 k p1 p2 x1 x2 W) (hy : W'.heap[b1]? = some (.cells #[y] 69 (0, 0))) (hg : W.grownBy W' (some b1)) : AsS A B w b1 b2 g1 g2 k p1 p2 y x2 W' := by
  obtain ⟨l1, l2, l3, l4, l5⟩ := h.lt
  have hW := h.bel.size
  have k1 := ltB h.h2
  refine ⟨h.env.below (grown_below hg (by omega) (by omega)), h.bel.trans (grown_below hg (by omega) (by omega)), hy, (hg.block b2 k1 (fun e => by have := Option.some.inj e; omega)).trans h.h2, ?_, ?_, h.lt⟩
  · exact (hg.block g1 (ltB h.a1) (fun e => by have := Option.some.inj e; omega)).trans h.a1
  · exact (hg.block g2 (ltB h.a2) (fun e => by have := Option.some.inj e; omega)).trans h.a2
theorem AsS.two {A : Nat → Addr} {B : Nat} {w : World} {b1 b2 g1 g2 k : Nat} {p1 p2 : Int} {x1 x2 y : Value} {W W' : World} (h : AsS A B w b1 b2 g1 g2 k p1 p2 x1 x2 W) (hy : W'.heap[b2]? = some (.cells #[y] 69 (0, 0))) (hg : W.grownBy W' (some b2)) : AsS A B w b1 b2 g1 g2 k p1 p2 x1 y W' := by
  obtain ⟨l1, l2, l3, l4, l5⟩ := h.lt
  have hW := h.bel.size
  have k1 := ltB h.h1
  refine ⟨h.env.below (grown_below hg (by omega) (by omega)), h.bel.trans (grown_below hg (by omega) (by omega)), (hg.block b1 k1 (fun e => by have := Option.some.inj e; omega)).trans h.h1, hy, ?_, ?_, h.lt⟩
  · exact (hg.block g1 (ltB h.a1) (fun e => by have := Option.some.inj e; omega)).trans h.a1
  · exact (hg.block g2 (ltB h.a2) (fun e => by have := Option.some.inj e; omega)).trans h.a2
theorem AsS.cells {A : Nat → Addr} {B : Nat} {w : World} {b1 b2 g1 g2 k : Nat} {p1 p2 : Int} {x1 x2 : Value} {W : World} (h : AsS A B w b1 b2 g1 g2 k p1 p2 x1 x2 W) :
    W.cell? ⟨b1, 0, none⟩ = some x1 ∧ W.cell? ⟨b2, 0, none⟩ = some x2 ∧ W.cell? ⟨g1, 1, none⟩ = some (.iface 237 (.pointer (some (A k)))) ∧ W.cell? ⟨g2, 1, none⟩ = some (.iface 237 (.pointer (some (A k)))) :=
  ⟨cellB h.h1 0 rfl, cellB h.h2 0 rfl, cellB h.a1 1 rfl, cellB h.a2 1 rfl⟩
def fix1 : ByteArray := ⟨#[91, 49, 44, 32, 34, 97, 34, 93]⟩
def fix2 : ByteArray := ⟨#[32, 123, 125, 32]⟩
theorem fix1_ok : parseS fix1 = .ok (.lst 0 [.num 1 ⟨#[49]⟩, .text 4 ⟨#[97]⟩]) 5 := by kernel_rfl
theorem fix1_form : formS fix1 = ⟨#[91, 49, 44, 34, 97, 34, 93]⟩ := by kernel_rfl
theorem fix2_ok : parseS fix2 = .ok (.obj 1 []) 2 := by kernel_rfl
set_option maxHeartbeats 1000000 in
set_option maxRecDepth 100000 in
theorem lives_calls {A : Nat → Addr} {B : Nat} (w : World) (hE : Env A B SVN w) : Calls Tryz.prog 8 #[] w fun e w' => e = .returned (.bool true) ∧ Below w.heap.size w w' := by
  have F : Hid (∀ w, Env A B SVN w → Calls Tryz.prog 15 #[.string ⟨#[91, 49, 44, 32, 34, 97, 34, 93]⟩] w fun e w' => e = .returned (.tuple #[.string ⟨#[91, 49, 44, 34, 97, 34, 93]⟩, .nilIface]) ∧ Below w.heap.size w w') := Lib.hid (fun w h => by
    refine (Format_calls fix1 w h (by decide)).mono ?_
    rintro e w' ⟨hr, hb⟩
    rw [fix1_ok, fix1_form] at hr
    exact ⟨hr, hb⟩)
  have N : Hid (∀ w, Env A B SVN w → Calls Tryz.prog 16 #[.string ⟨#[32, 123, 125, 32]⟩] w fun e w' => e = .returned (.tuple #[.string ⟨#[111, 98, 106, 101, 99, 116]⟩, .nilIface]) ∧ Below w.heap.size w w') := Lib.hid (fun w h => by
    refine (Name_calls fix2 w h (by decide)).mono ?_
    rintro e w' ⟨hr, hb⟩
    rw [fix2_ok] at hr
    exact ⟨hr, hb⟩)
  go_enter Tryz.func8, Tryz.ntmps8
  (go_wp2_with fail; repeat (any_goals (go_quiet (fail); go_wp2_with fail)))
  refine (F.out _ (hE.next (by repeat (first | assumption | exact Below.refl _ _ | apply Below.drew | apply below_drewN | apply balloc | (refine Below.setCell ?_ (by first | omega | (simp <;> omega)) _))))).mono ?_
  rintro e w1 ⟨rfl, hb⟩
  have hb1 : Below w.heap.size w w1 := bcall (by repeat (first | assumption | exact Below.refl _ _ | apply Below.drew | apply below_drewN | apply balloc | (refine Below.setCell ?_ (by first | omega | (simp <;> omega)) _))) hb
  clear hb
  (go_wp2_with fail; repeat (any_goals (go_quiet (fail); go_wp2_with fail)))
  refine (N.out _ (hE.next hb1)).mono ?_
  rintro e w2 ⟨rfl, hb⟩
  have hb2 : Below w.heap.size w w2 := bcall hb1 hb
  clear hb
  (go_wp2_with fail; repeat (any_goals (go_quiet (fail); go_wp2_with fail)))
  go_ret
  exact ⟨rfl, hb2⟩

end Go.Proofs.YtibopkodoidjoaaGreatDoor

/- The statements of chapter 18: at. -/
namespace Go.Proofs.YtibopkodoidjoaaGreatDoor
open Go Go.RowKit

theorem al_keepA {W : World} {g : Nat} {o o' : Obj} (h : W.heap[g]? = some o) : (W.alloc o').heap[g]? = some o := (((Below.refl W.heap.size W).alloc (Nat.le_refl _) o').block g (ltB h)).trans h
theorem gr_keepA {W w1 : World} {g b : Nat} {o : Obj} (hg : W.grownBy w1 (some b)) (h : W.heap[g]? = some o) (hne : g ≠ b) : w1.heap[g]? = some o := (hg.block g (ltB h) (fun e => by have := Option.some.inj e; omega)).trans h
set_option maxHeartbeats 1000000 in
set_option maxRecDepth 100000 in
theorem at_nil (p : Int) (w : World) : Calls Tryz.prog 11 #[.nilIface, .int .i64 p, .int .i64 0] w fun e w' => e = .returned (.bool true) ∧ Below w.heap.size w w' := by
  go_enter Tryz.func11, Tryz.ntmps11
  (go_wp2_with fail; repeat (any_goals (go_quiet (fail); go_wp2_with fail)))
  go_ret
  exact ⟨rfl, (by repeat (first | assumption | exact Below.refl _ _ | apply Below.drew | apply below_drewN | apply balloc | (refine Below.setCell ?_ (by first | omega | (simp <;> omega)) _)))⟩
set_option maxHeartbeats 2000000 in
set_option maxRecDepth 100000 in
theorem at_err {A : Nat → Addr} {B : Nat} (k pl g : Nat) (w : World) (hE : EnvA A B w) (hk0 : 1 ≤ k) (hk : k ≤ 19) (hat : AtB (pl : Int) (.iface 237 (.pointer (some (A k)))) g w) :
    Calls Tryz.prog 11 #[.iface 69 (.pointer (some ⟨g, 0, none⟩)), .int .i64 (pl : Int), .int .i64 (k : Int)] w fun e w' => e = .returned (.bool true) ∧ Below w.heap.size w w' := by
  have hgl := ltB hat
  have h1 : ((k : Int) == 0) = false := by simp; omega
  have h1' : ¬ (k : Int) = 0 := by omega
  replace hE := Lib.hid hE
  replace hat := Lib.hid hat
  go_enter Tryz.func11, Tryz.ntmps11
  (go_wp2_with fail; repeat (any_goals (go_quiet (fail); go_wp2_with fail)))
  refine (As_calls g w.heap.size _ _ (hE.out.next (by repeat (first | assumption | exact Below.refl _ _ | apply Below.drew | apply below_drewN | apply balloc | (refine Below.setCell ?_ (by first | omega | (simp <;> omega)) _)))) (heap_alloc_new w _)).mono ?_
  rintro e w1 ⟨rfl, ht, hg⟩
  have hat1 := gr_keepA hg (al_keepA hat.out) (by omega)
  have c0 := cellB hat1 0 rfl
  have c1 := cellB hat1 1 rfl
  have t0 := cellB ht 0 rfl
  have hb1 : Below w.heap.size w w1 := Below.grown (balloc (Below.refl _ _)) hg (by simp) (fun k e => by cases e; exact Nat.le_refl _)
  go_wp2_with fail
  refine (Num_err k w1 hk0 hk (hE.out.next hb1).env).mono ?_
  rintro e w2 ⟨rfl, hb⟩
  have hb2 : Below w.heap.size w w2 := bcall hb1 hb
  clear hb
  (go_wp2_with fail; repeat (any_goals (go_quiet (fail); go_wp2_with fail)))
  go_ret
  exact ⟨rfl, hb2⟩

end Go.Proofs.YtibopkodoidjoaaGreatDoor
