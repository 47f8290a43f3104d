/- Lemmas of the proof, put together: Rd2, Rd3, Rd4, Rd5, Tree5, Rd6, Rd7, Rd8, RegL, TreeMap. -/
import Derived.Test.YtibopkodoidjoaaGreatDoorM4
import Derived.Great.Walk
import Derived.Laws.Rows
import Derived.BigRegion
import Derived.Test.YtibopkodoidjoaaGreatDoorM1
import Derived.Maps.OwnSet

/- The reference's tree: nodes in memory. -/
namespace Go.Proofs.YtibopkodoidjoaaGreatDoor
open Go Go.RowKit

def nilV : Value := .slice none 0 0
/-- A node's seven cells. -/
def rdC (n p : Nat) (f : Bool) (t : ByteArray) (vi vk vp : Value) : List Value := [.int .i64 (n : Int), .int .i64 (p : Int), .bool f, .string t, vi, vk, vp]
/-- A member of a list or an object: its key and the key's place, the blocks it lies in, its cells, the node. -/
structure RKid where
  key : ByteArray
  pl : Nat
  l : Nat
  h : Nat
  u : List Value
  x : Nd
def RKid.mem (c : RKid) : ByteArray × Nat × Nd := (c.key, c.pl, c.x)
def RKid.fits (lo hi : Nat) (c : RKid) : Prop := lo ≤ c.l ∧ c.l ≤ c.h ∧ c.h ≤ hi
/-- A node as cells, its rows in blocks lo .. hi. -/
inductive OwnR (w : World) : Nat → Nat → List Value → Nd → Prop
  | null (lo hi p : Nat) : OwnR w lo hi (rdC 0 p false noS (.slice none 0 0) (.slice none 0 0) (.slice none 0 0)) (.null p)
  | flag (lo hi p : Nat) (b : Bool) : OwnR w lo hi (rdC 1 p b noS (.slice none 0 0) (.slice none 0 0) (.slice none 0 0)) (.flag p b)
  | num (lo hi p : Nat) (t : ByteArray) : OwnR w lo hi (rdC 2 p false t (.slice none 0 0) (.slice none 0 0) (.slice none 0 0)) (.num p t)
  | text (lo hi p : Nat) (t : ByteArray) : OwnR w lo hi (rdC 3 p false t (.slice none 0 0) (.slice none 0 0) (.slice none 0 0)) (.text p t)
  | lst (lo hi p : Nat) (v : Value) (cs : List RKid) (ho : w.ownsRow lo 33 7 v cs.length (cs.flatMap RKid.u)) (hb : ∀ k, v.ownBlock = some k → k < hi)
      (hk : ∀ c ∈ cs, c.fits lo hi) (hc : ∀ c ∈ cs, OwnR w c.l c.h c.u c.x) :
      OwnR w lo hi (rdC 4 p false noS v (.slice none 0 0) (.slice none 0 0)) (.lst p (cs.map RKid.x))
  | obj (lo hi p : Nat) (v vk vp : Value) (cs : List RKid) (ho : w.ownsRow lo 33 7 v cs.length (cs.flatMap RKid.u)) (hb : ∀ k, v.ownBlock = some k → k < hi)
      (ho2 : w.ownsRow lo 9 1 vk cs.length (cs.map fun c => .string c.key)) (hb2 : ∀ k, vk.ownBlock = some k → k < hi)
      (ho3 : w.ownsRow lo 3 1 vp cs.length (cs.map fun c => .int .i64 (c.pl : Int))) (hb3 : ∀ k, vp.ownBlock = some k → k < hi)
      (hk : ∀ c ∈ cs, c.fits lo hi) (hc : ∀ c ∈ cs, OwnR w c.l c.h c.u c.x) :
      OwnR w lo hi (rdC 5 p false noS v vk vp) (.obj p (cs.map RKid.mem))
theorem OwnR.keep {w w' : World} {lo hi : Nat} {u : List Value} {x : Nd} (h : OwnR w lo hi u x) : (∀ k, lo ≤ k → k < hi → w'.heap[k]? = w.heap[k]?) → OwnR w' lo hi u x := by
  induction h with
  | null lo hi p => exact fun _ => .null lo hi p
  | flag lo hi p b => exact fun _ => .flag lo hi p b
  | num lo hi p t => exact fun _ => .num lo hi p t
  | text lo hi p t => exact fun _ => .text lo hi p t
  | lst lo hi p v cs ho hb hk hc ih =>
    intro H
    exact .lst lo hi p v cs (ownsRow_heap ho fun k e => H k (ho.lt k e).1 (hb k e)) hb hk (fun c hm => ih c hm fun k h1 h2 => H k (Nat.le_trans (hk c hm).1 h1) (Nat.lt_of_lt_of_le h2 (hk c hm).2.2))
  | obj lo hi p v vk vp cs ho hb ho2 hb2 ho3 hb3 hk hc ih =>
    intro H
    exact .obj lo hi p v vk vp cs (ownsRow_heap ho fun k e => H k (ho.lt k e).1 (hb k e)) hb (ownsRow_heap ho2 fun k e => H k (ho2.lt k e).1 (hb2 k e)) hb2 (ownsRow_heap ho3 fun k e => H k (ho3.lt k e).1 (hb3 k e)) hb3 hk (fun c hm => ih c hm fun k h1 h2 => H k (Nat.le_trans (hk c hm).1 h1) (Nat.lt_of_lt_of_le h2 (hk c hm).2.2))
theorem RKid.fits.wide {lo hi lo' hi' : Nat} {c : RKid} (h : c.fits lo hi) (h1 : lo' ≤ lo) (h2 : hi ≤ hi') : c.fits lo' hi' := ⟨Nat.le_trans h1 h.1, h.2.1, Nat.le_trans h.2.2 h2⟩
theorem OwnR.wide {w : World} {lo hi lo' hi' : Nat} {u : List Value} {x : Nd} (h : OwnR w lo hi u x) (h1 : lo' ≤ lo) (h2 : hi ≤ hi') : OwnR w lo' hi' u x := by
  cases h with
  | null _ _ p => exact .null lo' hi' _
  | flag _ _ p b => exact .flag lo' hi' _ _
  | num _ _ p t => exact .num lo' hi' _ _
  | text _ _ p t => exact .text lo' hi' _ _
  | lst _ _ p v cs ho hb hk hc => exact .lst lo' hi' _ v cs (ownsRow_base ho h1) (fun k e => Nat.lt_of_lt_of_le (hb k e) h2) (fun c hm => (hk c hm).wide h1 h2) hc
  | obj _ _ p v vk vp cs ho hb ho2 hb2 ho3 hb3 hk hc => exact .obj lo' hi' _ v vk vp cs (ownsRow_base ho h1) (fun k e => Nat.lt_of_lt_of_le (hb k e) h2) (ownsRow_base ho2 h1) (fun k e => Nat.lt_of_lt_of_le (hb2 k e) h2) (ownsRow_base ho3 h1) (fun k e => Nat.lt_of_lt_of_le (hb3 k e) h2) (fun c hm => (hk c hm).wide h1 h2) hc
theorem OwnR.grown {w w' : World} {lo hi b : Nat} {u : List Value} {x : Nd} (h : OwnR w lo hi u x) (hg : w.grownBy w' (some b)) (hh : hi ≤ w.heap.size) (hb : b < lo) : OwnR w' lo hi u x :=
  h.keep fun k h1 h2 => hg.block k (Nat.lt_of_lt_of_le h2 hh) (fun e => by cases e; omega)
def isSl (v : Value) : Prop := ∃ a n c, v = .slice a n c
theorem ownsRow_sl {w : World} {base : Nat} {e : TypeId} {size : Nat} {v : Value} {n : Nat} {xs : List Value} (h : w.ownsRow base e size v n xs) : isSl v := by
  obtain ⟨_, ⟨rfl, _⟩ | ⟨g, cap, cur, rfl, _⟩⟩ := h
  · exact ⟨_, _, _, rfl⟩
  · exact ⟨_, _, _, rfl⟩
theorem OwnR.form {w : World} {lo hi : Nat} {u : List Value} {x : Nd} (h : OwnR w lo hi u x) : ∃ n p f t vi vk vp, u = rdC n p f t vi vk vp ∧ isSl vi ∧ isSl vk ∧ isSl vp := by
  have hn : isSl (.slice none 0 0) := ⟨_, _, _, rfl⟩
  cases h with
  | null => exact ⟨_, _, _, _, _, _, _, rfl, hn, hn, hn⟩
  | flag => exact ⟨_, _, _, _, _, _, _, rfl, hn, hn, hn⟩
  | num => exact ⟨_, _, _, _, _, _, _, rfl, hn, hn, hn⟩
  | text => exact ⟨_, _, _, _, _, _, _, rfl, hn, hn, hn⟩
  | lst _ _ p v cs ho => exact ⟨_, _, _, _, _, _, _, rfl, ownsRow_sl ho, hn, hn⟩
  | obj _ _ p v vk vp cs ho hb ho2 hb2 ho3 => exact ⟨_, _, _, _, _, _, _, rfl, ownsRow_sl ho, ownsRow_sl ho2, ownsRow_sl ho3⟩
theorem rdC_one {n p : Nat} {f : Bool} {t : ByteArray} {vi vk vp : Value} (h1 : isSl vi) (h2 : isSl vk) (h3 : isSl vp) : ∀ u ∈ rdC n p f t vi vk vp, u.oneCell' = true := by
  obtain ⟨_, _, _, rfl⟩ := h1
  obtain ⟨_, _, _, rfl⟩ := h2
  obtain ⟨_, _, _, rfl⟩ := h3
  intro u hu
  simp only [rdC, List.mem_cons, List.mem_nil_iff, or_false] at hu
  rcases hu with rfl | rfl | rfl | rfl | rfl | rfl | rfl <;> rfl
/-- The members that a loop has gathered: their blocks, none of them a row's own. -/
structure RKids (n0 : Nat) (w : World) (os : List (Option Nat)) (cs : List RKid) : Prop where
  fit : ∀ c ∈ cs, c.fits n0 w.heap.size
  off : ∀ c ∈ cs, ∀ o ∈ os, ∀ k, o = some k → k < c.l ∨ c.h ≤ k
  kid : ∀ c ∈ cs, OwnR w c.l c.h c.u c.x
theorem RKids.nil (n0 : Nat) (w : World) (os : List (Option Nat)) : RKids n0 w os [] := ⟨fun c h => (by cases h), fun c h => (by cases h), fun c h => (by cases h)⟩
/-- A row grows, or other memory. -/
theorem RKids.grow {n0 : Nat} {w w' : World} {os os' : List (Option Nat)} {cs : List RKid} {o : Option Nat} (h : RKids n0 w os cs) (hg : w.grownBy w' o) (ho : (∀ k, o = some k → k < n0) ∨ o ∈ os)
    (hos : ∀ o' ∈ os', o' ∈ os ∨ ∃ g, o' = some g ∧ w.heap.size ≤ g) : RKids n0 w' os' cs := by
  refine ⟨fun c hm => (h.fit c hm).wide (Nat.le_refl _) hg.size, fun c hm o' ho' k hk => ?_, fun c hm => (h.kid c hm).keep fun k h1 h2 => hg.block k (Nat.lt_of_lt_of_le h2 (h.fit c hm).2.2) fun e => ?_⟩
  · rcases hos o' ho' with h1 | ⟨g, h1, h2⟩
    · exact h.off c hm o' h1 k hk
    · rw [h1] at hk
      cases hk
      exact Or.inr (Nat.le_trans (h.fit c hm).2.2 h2)
  · rcases ho with h3 | h3
    · have := h3 k e.symm
      have := (h.fit c hm).1
      omega
    · have := h.off c hm o h3 k e.symm
      omega
theorem RKids.below {n0 : Nat} {w w' : World} {os : List (Option Nat)} {cs : List RKid} (h : RKids n0 w os cs) (hb : Below w.heap.size w w') : RKids n0 w' os cs :=
  h.grow (o := none) (grown_of_below hb) (Or.inl fun k e => by cases e) fun o ho => Or.inl ho
/-- One more, just read. -/
theorem RKids.add {n0 n1 : Nat} {w : World} {os : List (Option Nat)} {cs : List RKid} {c : RKid} (h : RKids n0 w os cs) (hl : c.l = n1) (hh : c.h = w.heap.size) (hx : OwnR w c.l c.h c.u c.x) (hn : n0 ≤ n1) (h1 : n1 ≤ w.heap.size) (ho : ∀ o ∈ os, ∀ k, o = some k → k < n1) : RKids n0 w os (cs ++ [c]) := by
  refine ⟨fun a hm => ?_, fun a hm => ?_, fun a hm => ?_⟩
  all_goals rcases List.mem_append.1 hm with hm | hm
  · exact h.fit a hm
  · rw [List.mem_singleton.1 hm]; exact ⟨by omega, by omega, by omega⟩
  · exact h.off a hm
  · rw [List.mem_singleton.1 hm, hl]; exact fun o hm k e => Or.inl (ho o hm k e)
  · exact h.kid a hm
  · rw [List.mem_singleton.1 hm]; exact hx
/-- What value answers (a reader without a fault; pl0 is its place's cell). -/
def PostRV (s : ByteArray) (v : Value) (n pl0 b : Nat) (w : World) (r : PR Nd) (e : Ending) (w' : World) : Prop :=
  w.grownBy w' (some b) ∧ match r with
    | .ok x q => ∃ u : List Value, e = .returned (.agg u.toArray) ∧ OwnR w' w.heap.size w'.heap.size u x ∧ RdB s v q pl0 0 b w'
    | .err k pl => ∃ m p f t vi vk vp q, e = .returned (.agg (rdC m p f t vi vk vp).toArray) ∧ (isSl vi ∧ isSl vk ∧ isSl vp) ∧ q ≤ n ∧ RdB s v q pl k b w'
    | .out => True
/-- What is asked of value at a fuel. -/
def RVC (base : Nat) (s : ByteArray) (v : Value) (ts : List Tk) (f : Nat) : Prop := ∀ deep p pl b w, pV s ts f deep p ≠ .out → deep ≤ 64 → RdW base s v ts p pl 0 b w →
  Calls Tryz.prog 34 #[.pointer (some ⟨b, 0, none⟩), .int .i64 (deep : Int)] w (PostRV s v ts.length pl b w (pV s ts f deep p))
theorem set1 {w : World} {g i : Nat} {cs ds : Array Value} {t : TypeId} {fr : Nat × Nat} (h : w.heap[g]? = some (.cells cs t fr)) (u : Value) (hd : cs.setIfInBounds i u = ds) : (w.setCell ⟨g, i, none⟩ u).heap[g]? = some (.cells ds t fr) := by
  rw [Lib.heap_setCell_same (i := i) h, hd]
theorem set7 {w : World} {g : Nat} {a0 a1 a2 a3 a4 a5 a6 : Value} {t : TypeId} {fr : Nat × Nat} (h : w.heap[g]? = some (.cells #[a0, a1, a2, a3, a4, a5, a6] t fr)) (b0 b1 b2 b3 b4 b5 b6 : Value) :
    (((((((w.setCell ⟨g, 0, none⟩ b0).setCell ⟨g, 1, none⟩ b1).setCell ⟨g, 2, none⟩ b2).setCell ⟨g, 3, none⟩ b3).setCell ⟨g, 4, none⟩ b4).setCell ⟨g, 5, none⟩ b5).setCell ⟨g, 6, none⟩ b6).heap[g]? = some (.cells #[b0, b1, b2, b3, b4, b5, b6] t fr) := by
  have h := set1 (i := 0) (ds := #[b0, a1, a2, a3, a4, a5, a6]) h b0 rfl
  have h := set1 (i := 1) (ds := #[b0, b1, a2, a3, a4, a5, a6]) h b1 rfl
  have h := set1 (i := 2) (ds := #[b0, b1, b2, a3, a4, a5, a6]) h b2 rfl
  have h := set1 (i := 3) (ds := #[b0, b1, b2, b3, a4, a5, a6]) h b3 rfl
  have h := set1 (i := 4) (ds := #[b0, b1, b2, b3, b4, a5, a6]) h b4 rfl
  have h := set1 (i := 5) (ds := #[b0, b1, b2, b3, b4, b5, a6]) h b5 rfl
  have h := set1 (i := 6) (ds := #[b0, b1, b2, b3, b4, b5, b6]) h b6 rfl
  exact h
theorem below7 {B : Nat} {w w1 : World} {g : Nat} (h : Below B w w1) (hg : B ≤ g) (b0 b1 b2 b3 b4 b5 b6 : Value) :
    Below B w (((((((w1.setCell ⟨g, 0, none⟩ b0).setCell ⟨g, 1, none⟩ b1).setCell ⟨g, 2, none⟩ b2).setCell ⟨g, 3, none⟩ b3).setCell ⟨g, 4, none⟩ b4).setCell ⟨g, 5, none⟩ b5).setCell ⟨g, 6, none⟩ b6) := by
  have h := Below.setCell h (p := ⟨g, 0, none⟩) hg b0
  have h := Below.setCell h (p := ⟨g, 1, none⟩) hg b1
  have h := Below.setCell h (p := ⟨g, 2, none⟩) hg b2
  have h := Below.setCell h (p := ⟨g, 3, none⟩) hg b3
  have h := Below.setCell h (p := ⟨g, 4, none⟩) hg b4
  have h := Below.setCell h (p := ⟨g, 5, none⟩) hg b5
  exact Below.setCell h (p := ⟨g, 6, none⟩) hg b6
theorem info7 : (Tryz.prog.info? 33).map (·.size) = some 7 := by kernel_rfl
set_option maxHeartbeats 1000000 in
set_option maxRecDepth 100000 in
/-- value, where there is a fault. -/
theorem rvalue_old {base : Nat} {v : Value} {ts : List Tk} (s : ByteArray) (p pl k b : Nat) (deep : Int) (w : World) (hW : RdW base s v ts p pl k b w) (h0 : k ≠ 0) :
    Calls Tryz.prog 34 #[.pointer (some ⟨b, 0, none⟩), .int .i64 deep] w fun e w' => e = .returned (.agg (rdC 0 (placeT s ts p) false noS (.slice none 0 0) (.slice none 0 0) (.slice none 0 0)).toArray) ∧ Below w.heap.size w w' := by
  have H := Lib.hid (fun w hW => here_calls (base := base) (v := v) (ts := ts) s p pl k b w hW)
  obtain ⟨P1, hP1⟩ : ∃ P1, P1 = placeT s ts p := ⟨_, rfl⟩
  rw [← hP1] at H ⊢
  have hbl := hW.lt
  have h1 : ((k : Int) == 0) = false := by simp; omega
  have h1' : ¬ (k : Int) = 0 := by omega
  replace hW := Lib.hid hW
  replace hP1 := Lib.hid hP1
  go_enter Tryz.func34, Tryz.ntmps34
  (go_wp2_with fail; repeat (any_goals (go_quiet (fail); go_wp2_with fail)))
  refine (H.out _ (hW.out.next (by repeat (first | assumption | exact Below.refl _ _ | apply Below.drew | apply below_drewN | apply balloc | (refine Below.setCell ?_ (by first | omega | (simp <;> omega)) _))))).mono ?_
  rintro e w1 ⟨rfl, hb⟩
  have hb1 : Below w.heap.size w w1 := bcall (by repeat (first | assumption | exact Below.refl _ _ | apply Below.drew | apply below_drewN | apply balloc | (refine Below.setCell ?_ (by first | omega | (simp <;> omega)) _))) hb
  have hx := boxed hb
  have x4 := (hW.out.next hb1).rd.c4
  have hbl1 := (hW.out.next hb1).lt
  clear hb
  have yc0 := cellB hx 0 rfl
  have yc1 := cellB hx 1 rfl
  have yc2 := cellB hx 2 rfl
  have yc3 := cellB hx 3 rfl
  have yc4 := cellB hx 4 rfl
  have yc5 := cellB hx 5 rfl
  have yc6 := cellB hx 6 rfl
  have yf0 := freeB hx 0
  have yf1 := freeB hx 1
  have yf2 := freeB hx 2
  have yf3 := freeB hx 3
  have yf4 := freeB hx 4
  have yf5 := freeB hx 5
  have yf6 := freeB hx 6
  have hx0 := ltB hx
  go_wp2_with fail
  have hh := box_next (set7 hx (.int .i64 0) (.int .i64 (P1 : Int)) (.bool false) (.string ⟨#[]⟩) (.slice none 0 0) (.slice none 0 0) (.slice none 0 0)) (balloc (o := .cells #[.int .i64 0, .int .i64 (P1 : Int), .bool false, .string ⟨#[]⟩, .slice none 0 0, .slice none 0 0, .slice none 0 0] 33 (0, 0)) (Below.refl _ _))
  refine bodyPost_ret (results_cell_row rfl _ _ w.heap.size 33 _ (0, 0) _ rfl hh Tryz.underlying33 rfl info7) rfl ?_
  exact ⟨rfl, balloc (below7 hb1 (Nat.le_refl _) _ _ _ _ _ _ _)⟩

end Go.Proofs.YtibopkodoidjoaaGreatDoor

/- The reference's tree: value, the plain kinds. -/
namespace Go.Proofs.YtibopkodoidjoaaGreatDoor
open Go Go.RowKit

theorem other {w : World} {g c i : Nat} {u : Value} {o : Obj} (h : w.heap[g]? = some o) (hc : g ≠ c) : (w.setCell ⟨c, i, none⟩ u).heap[g]? = some o := by
  rw [Below.heap_setCell _ _ _ _ (fun e => hc (by first | exact e | exact e.symm)), h]
theorem other7 {W : World} {g c : Nat} {o : Obj} (h : W.heap[c]? = some o) (hc : c ≠ g) (b0 b1 b2 b3 b4 b5 b6 : Value) : (((((((W.setCell ⟨g, 0, none⟩ b0).setCell ⟨g, 1, none⟩ b1).setCell ⟨g, 2, none⟩ b2).setCell ⟨g, 3, none⟩ b3).setCell ⟨g, 4, none⟩ b4).setCell ⟨g, 5, none⟩ b5).setCell ⟨g, 6, none⟩ b6).heap[c]? = some o :=
  other (other (other (other (other (other (other h hc) hc) hc) hc) hc) hc) hc
theorem grown7 {w W : World} {g b : Nat} (h : w.grownBy W (some b)) (hc : w.heap.size ≤ g) (b0 b1 b2 b3 b4 b5 b6 : Value) : w.grownBy (((((((W.setCell ⟨g, 0, none⟩ b0).setCell ⟨g, 1, none⟩ b1).setCell ⟨g, 2, none⟩ b2).setCell ⟨g, 3, none⟩ b3).setCell ⟨g, 4, none⟩ b4).setCell ⟨g, 5, none⟩ b5).setCell ⟨g, 6, none⟩ b6) (some b) :=
  ((((((h.setNew hc 0 b0).setNew hc 1 b1).setNew hc 2 b2).setNew hc 3 b3).setNew hc 4 b4).setNew hc 5 b5).setNew hc 6 b6
/-- The end of value: the result's cells are set. -/
theorem rd_end {s : ByteArray} {v : Value} {q pl k b g : Nat} {w W : World} {a0 a1 a2 a3 a4 a5 a6 : Value} (hx : W.heap[g]? = some (.cells #[a0, a1, a2, a3, a4, a5, a6] 33 (0, 0))) (hg : w.grownBy W (some b)) (hr : RdB s v q pl k b W) (hb : b ≠ g) (hge : w.heap.size ≤ g) (b0 b1 b2 b3 b4 b5 b6 : Value) :
    (((((((W.setCell ⟨g, 0, none⟩ b0).setCell ⟨g, 1, none⟩ b1).setCell ⟨g, 2, none⟩ b2).setCell ⟨g, 3, none⟩ b3).setCell ⟨g, 4, none⟩ b4).setCell ⟨g, 5, none⟩ b5).setCell ⟨g, 6, none⟩ b6).heap[g]? = some (.cells #[b0, b1, b2, b3, b4, b5, b6] 33 (0, 0)) ∧ w.grownBy (((((((W.setCell ⟨g, 0, none⟩ b0).setCell ⟨g, 1, none⟩ b1).setCell ⟨g, 2, none⟩ b2).setCell ⟨g, 3, none⟩ b3).setCell ⟨g, 4, none⟩ b4).setCell ⟨g, 5, none⟩ b5).setCell ⟨g, 6, none⟩ b6) (some b) ∧ RdB s v q pl k b (((((((W.setCell ⟨g, 0, none⟩ b0).setCell ⟨g, 1, none⟩ b1).setCell ⟨g, 2, none⟩ b2).setCell ⟨g, 3, none⟩ b3).setCell ⟨g, 4, none⟩ b4).setCell ⟨g, 5, none⟩ b5).setCell ⟨g, 6, none⟩ b6) :=
  ⟨set7 hx _ _ _ _ _ _ _, grown7 hg hge _ _ _ _ _ _ _, other7 hr hb _ _ _ _ _ _ _⟩
set_option maxHeartbeats 2000000 in
set_option maxRecDepth 100000 in
theorem rvalue_null {base : Nat} {v : Value} {ts : List Tk} (s : ByteArray) (p pl b : Nat) (deep : Int) (w : World) (hW : RdW base s v ts p pl 0 b w) (hK : kindT ts p = 1) :
    Calls Tryz.prog 34 #[.pointer (some ⟨b, 0, none⟩), .int .i64 deep] w (PostRV s v ts.length pl b w (.ok (.null (placeT s ts p)) (p + 1))) := by
  have H := Lib.hid (fun w hW => here_calls (base := base) (v := v) (ts := ts) s p pl 0 b w hW)
  have N := Lib.hid (fun w hW => peek_calls (base := base) (v := v) (ts := ts) s p pl 0 b w hW)
  obtain ⟨P1, hP1⟩ : ∃ P1, P1 = placeT s ts p := ⟨_, rfl⟩
  rw [← hP1] at H ⊢
  rw [hK] at N
  have hbl := hW.lt
  have hpb : (p : Int) + 1 ≤ 3518437208884 := by have := hW.hl; have := hW.hp; omega
  replace hW := Lib.hid hW
  replace hP1 := Lib.hid hP1
  replace hK := Lib.hid hK
  go_enter Tryz.func34, Tryz.ntmps34
  (go_wp2_with fail; repeat (any_goals (go_quiet (fail); go_wp2_with fail)))
  refine (H.out _ (hW.out.next (by repeat (first | assumption | exact Below.refl _ _ | apply Below.drew | apply below_drewN | apply balloc | (refine Below.setCell ?_ (by first | omega | (simp <;> omega)) _))))).mono ?_
  rintro e w1 ⟨rfl, hb⟩
  have hb1 : Below w.heap.size w w1 := bcall (by repeat (first | assumption | exact Below.refl _ _ | apply Below.drew | apply below_drewN | apply balloc | (refine Below.setCell ?_ (by first | omega | (simp <;> omega)) _))) hb
  have hx := boxed hb
  have hz1 := ltB hx
  have hz2 : b ≠ w.heap.size := by omega
  have hz3 : b ≠ w1.heap.size := by omega
  have hz4 : w.heap.size ≠ w1.heap.size := by omega
  clear hb
  have hW1 := hW.out.next hb1
  have x4 := hW1.rd.c4
  have hbl1 := hW1.lt
  replace hW1 := Lib.hid hW1
  go_wp2_with fail
  refine (N.out _ (hW1.out.next (by repeat (first | assumption | exact Below.refl _ _ | apply Below.drew | apply below_drewN | apply balloc | (refine Below.setCell ?_ (by first | omega | (simp <;> omega)) _))))).mono ?_
  rintro e w2 ⟨rfl, hb⟩
  have hb2 : Below w.heap.size w w2 := bcall (balloc hb1) hb
  have hn := boxed hb
  replace hx := box_next hx (bcall (w := w1) (balloc (Below.refl _ _)) hb)
  clear hb x4
  have hW2 := hW.out.next hb2
  have x2 := hW2.rd.c2
  have f2 := freeB hW2.rd 2
  have hbl2 := hW2.lt
  have hx0 := ltB hx
  have hn0 := ltB hn
  replace hW2 := Lib.hid hW2
  have yc0 := cellB hx 0 rfl
  have yc1 := cellB hx 1 rfl
  have yc2 := cellB hx 2 rfl
  have yc3 := cellB hx 3 rfl
  have yc4 := cellB hx 4 rfl
  have yc5 := cellB hx 5 rfl
  have yc6 := cellB hx 6 rfl
  have yf0 := freeB hx 0
  have yf1 := freeB hx 1
  have yf2 := freeB hx 2
  have yf3 := freeB hx 3
  have yf4 := freeB hx 4
  have yf5 := freeB hx 5
  have yf6 := freeB hx 6
  have zc0 := cellB hn 0 rfl
  have zc1 := cellB hn 1 rfl
  have zc2 := cellB hn 2 rfl
  have zc3 := cellB hn 3 rfl
  have zc4 := cellB hn 4 rfl
  have zc5 := cellB hn 5 rfl
  have zc6 := cellB hn 6 rfl
  have zf0 := freeB hn 0
  have zf1 := freeB hn 1
  have zf2 := freeB hn 2
  have zf3 := freeB hn 3
  have zf4 := freeB hn 4
  have zf5 := freeB hn 5
  have zf6 := freeB hn 6
  go_wp2_with fail
  have h1 := other (i := 2) (u := .int .i64 ((p : Int) + 1)) (other (i := 0) (u := .int .i64 0) hx hz4) hz2.symm
  have h2 := (other (i := 0) (u := .int .i64 0) hW2.out.rd hz3)
  have h3 := RdB.set2 (q := p + 1) h2
  have h4 := grown_trans ((grown_of_below (r := some b) hb2).setNew (Nat.le_of_lt hz1) 0 (.int .i64 0)) (grown_set _ b 2 (.int .i64 ((p : Int) + 1)))
  obtain ⟨e1, e2, e3⟩ := rd_end h1 h4 h3 hz2 (Nat.le_refl _) (.int .i64 0) (.int .i64 (P1 : Int)) (.bool false) (.string ⟨#[]⟩) (.slice none 0 0) (.slice none 0 0) (.slice none 0 0)
  exact bodyPost_ret (results_cell_row rfl _ _ w.heap.size 33 _ (0, 0) _ rfl e1 Tryz.underlying33 rfl info7) rfl ⟨e2, _, rfl, .null _ _ _, e3⟩

set_option maxHeartbeats 2000000 in
set_option maxRecDepth 100000 in
theorem rvalue_flag2 {base : Nat} {v : Value} {ts : List Tk} (s : ByteArray) (p pl b : Nat) (deep : Int) (w : World) (hW : RdW base s v ts p pl 0 b w) (hK : kindT ts p = 2) :
    Calls Tryz.prog 34 #[.pointer (some ⟨b, 0, none⟩), .int .i64 deep] w (PostRV s v ts.length pl b w (.ok (.flag (placeT s ts p) true) (p + 1))) := by
  have H := Lib.hid (fun w hW => here_calls (base := base) (v := v) (ts := ts) s p pl 0 b w hW)
  have N := Lib.hid (fun w hW => peek_calls (base := base) (v := v) (ts := ts) s p pl 0 b w hW)
  obtain ⟨P1, hP1⟩ : ∃ P1, P1 = placeT s ts p := ⟨_, rfl⟩
  rw [← hP1] at H ⊢
  rw [hK] at N
  have hbl := hW.lt
  have hpb : (p : Int) + 1 ≤ 3518437208884 := by have := hW.hl; have := hW.hp; omega
  replace hW := Lib.hid hW
  replace hP1 := Lib.hid hP1
  replace hK := Lib.hid hK
  go_enter Tryz.func34, Tryz.ntmps34
  (go_wp2_with fail; repeat (any_goals (go_quiet (fail); go_wp2_with fail)))
  refine (H.out _ (hW.out.next (by repeat (first | assumption | exact Below.refl _ _ | apply Below.drew | apply below_drewN | apply balloc | (refine Below.setCell ?_ (by first | omega | (simp <;> omega)) _))))).mono ?_
  rintro e w1 ⟨rfl, hb⟩
  have hb1 : Below w.heap.size w w1 := bcall (by repeat (first | assumption | exact Below.refl _ _ | apply Below.drew | apply below_drewN | apply balloc | (refine Below.setCell ?_ (by first | omega | (simp <;> omega)) _))) hb
  have hx := boxed hb
  have hz1 := ltB hx
  have hz2 : b ≠ w.heap.size := by omega
  have hz3 : b ≠ w1.heap.size := by omega
  have hz4 : w.heap.size ≠ w1.heap.size := by omega
  clear hb
  have hW1 := hW.out.next hb1
  have x4 := hW1.rd.c4
  have hbl1 := hW1.lt
  replace hW1 := Lib.hid hW1
  go_wp2_with fail
  refine (N.out _ (hW1.out.next (by repeat (first | assumption | exact Below.refl _ _ | apply Below.drew | apply below_drewN | apply balloc | (refine Below.setCell ?_ (by first | omega | (simp <;> omega)) _))))).mono ?_
  rintro e w2 ⟨rfl, hb⟩
  have hb2 : Below w.heap.size w w2 := bcall (balloc hb1) hb
  have hn := boxed hb
  replace hx := box_next hx (bcall (w := w1) (balloc (Below.refl _ _)) hb)
  clear hb x4
  have hW2 := hW.out.next hb2
  have x2 := hW2.rd.c2
  have f2 := freeB hW2.rd 2
  have hbl2 := hW2.lt
  have hx0 := ltB hx
  have hn0 := ltB hn
  replace hW2 := Lib.hid hW2
  have yc0 := cellB hx 0 rfl
  have yc1 := cellB hx 1 rfl
  have yc2 := cellB hx 2 rfl
  have yc3 := cellB hx 3 rfl
  have yc4 := cellB hx 4 rfl
  have yc5 := cellB hx 5 rfl
  have yc6 := cellB hx 6 rfl
  have yf0 := freeB hx 0
  have yf1 := freeB hx 1
  have yf2 := freeB hx 2
  have yf3 := freeB hx 3
  have yf4 := freeB hx 4
  have yf5 := freeB hx 5
  have yf6 := freeB hx 6
  have zc0 := cellB hn 0 rfl
  have zc1 := cellB hn 1 rfl
  have zc2 := cellB hn 2 rfl
  have zc3 := cellB hn 3 rfl
  have zc4 := cellB hn 4 rfl
  have zc5 := cellB hn 5 rfl
  have zc6 := cellB hn 6 rfl
  have zf0 := freeB hn 0
  have zf1 := freeB hn 1
  have zf2 := freeB hn 2
  have zf3 := freeB hn 3
  have zf4 := freeB hn 4
  have zf5 := freeB hn 5
  have zf6 := freeB hn 6
  go_wp2_with fail
  have h1 := other (i := 2) (u := .int .i64 ((p : Int) + 1)) (other (i := 2) (u := .bool true) (other (i := 0) (u := .int .i64 1) hx hz4) hz4) hz2.symm
  have h2 := (other (i := 2) (u := .bool true) (other (i := 0) (u := .int .i64 1) hW2.out.rd hz3) hz3)
  have h3 := RdB.set2 (q := p + 1) h2
  have h4 := grown_trans (((grown_of_below (r := some b) hb2).setNew (Nat.le_of_lt hz1) 0 (.int .i64 1)).setNew (Nat.le_of_lt hz1) 2 (.bool true)) (grown_set _ b 2 (.int .i64 ((p : Int) + 1)))
  obtain ⟨e1, e2, e3⟩ := rd_end h1 h4 h3 hz2 (Nat.le_refl _) (.int .i64 1) (.int .i64 (P1 : Int)) (.bool true) (.string ⟨#[]⟩) (.slice none 0 0) (.slice none 0 0) (.slice none 0 0)
  exact bodyPost_ret (results_cell_row rfl _ _ w.heap.size 33 _ (0, 0) _ rfl e1 Tryz.underlying33 rfl info7) rfl ⟨e2, _, rfl, .flag _ _ _ _, e3⟩
set_option maxHeartbeats 2000000 in
set_option maxRecDepth 100000 in
theorem rvalue_flag3 {base : Nat} {v : Value} {ts : List Tk} (s : ByteArray) (p pl b : Nat) (deep : Int) (w : World) (hW : RdW base s v ts p pl 0 b w) (hK : kindT ts p = 3) :
    Calls Tryz.prog 34 #[.pointer (some ⟨b, 0, none⟩), .int .i64 deep] w (PostRV s v ts.length pl b w (.ok (.flag (placeT s ts p) false) (p + 1))) := by
  have H := Lib.hid (fun w hW => here_calls (base := base) (v := v) (ts := ts) s p pl 0 b w hW)
  have N := Lib.hid (fun w hW => peek_calls (base := base) (v := v) (ts := ts) s p pl 0 b w hW)
  obtain ⟨P1, hP1⟩ : ∃ P1, P1 = placeT s ts p := ⟨_, rfl⟩
  rw [← hP1] at H ⊢
  rw [hK] at N
  have hbl := hW.lt
  have hpb : (p : Int) + 1 ≤ 3518437208884 := by have := hW.hl; have := hW.hp; omega
  replace hW := Lib.hid hW
  replace hP1 := Lib.hid hP1
  replace hK := Lib.hid hK
  go_enter Tryz.func34, Tryz.ntmps34
  (go_wp2_with fail; repeat (any_goals (go_quiet (fail); go_wp2_with fail)))
  refine (H.out _ (hW.out.next (by repeat (first | assumption | exact Below.refl _ _ | apply Below.drew | apply below_drewN | apply balloc | (refine Below.setCell ?_ (by first | omega | (simp <;> omega)) _))))).mono ?_
  rintro e w1 ⟨rfl, hb⟩
  have hb1 : Below w.heap.size w w1 := bcall (by repeat (first | assumption | exact Below.refl _ _ | apply Below.drew | apply below_drewN | apply balloc | (refine Below.setCell ?_ (by first | omega | (simp <;> omega)) _))) hb
  have hx := boxed hb
  have hz1 := ltB hx
  have hz2 : b ≠ w.heap.size := by omega
  have hz3 : b ≠ w1.heap.size := by omega
  have hz4 : w.heap.size ≠ w1.heap.size := by omega
  clear hb
  have hW1 := hW.out.next hb1
  have x4 := hW1.rd.c4
  have hbl1 := hW1.lt
  replace hW1 := Lib.hid hW1
  go_wp2_with fail
  refine (N.out _ (hW1.out.next (by repeat (first | assumption | exact Below.refl _ _ | apply Below.drew | apply below_drewN | apply balloc | (refine Below.setCell ?_ (by first | omega | (simp <;> omega)) _))))).mono ?_
  rintro e w2 ⟨rfl, hb⟩
  have hb2 : Below w.heap.size w w2 := bcall (balloc hb1) hb
  have hn := boxed hb
  replace hx := box_next hx (bcall (w := w1) (balloc (Below.refl _ _)) hb)
  clear hb x4
  have hW2 := hW.out.next hb2
  have x2 := hW2.rd.c2
  have f2 := freeB hW2.rd 2
  have hbl2 := hW2.lt
  have hx0 := ltB hx
  have hn0 := ltB hn
  replace hW2 := Lib.hid hW2
  have yc0 := cellB hx 0 rfl
  have yc1 := cellB hx 1 rfl
  have yc2 := cellB hx 2 rfl
  have yc3 := cellB hx 3 rfl
  have yc4 := cellB hx 4 rfl
  have yc5 := cellB hx 5 rfl
  have yc6 := cellB hx 6 rfl
  have yf0 := freeB hx 0
  have yf1 := freeB hx 1
  have yf2 := freeB hx 2
  have yf3 := freeB hx 3
  have yf4 := freeB hx 4
  have yf5 := freeB hx 5
  have yf6 := freeB hx 6
  have zc0 := cellB hn 0 rfl
  have zc1 := cellB hn 1 rfl
  have zc2 := cellB hn 2 rfl
  have zc3 := cellB hn 3 rfl
  have zc4 := cellB hn 4 rfl
  have zc5 := cellB hn 5 rfl
  have zc6 := cellB hn 6 rfl
  have zf0 := freeB hn 0
  have zf1 := freeB hn 1
  have zf2 := freeB hn 2
  have zf3 := freeB hn 3
  have zf4 := freeB hn 4
  have zf5 := freeB hn 5
  have zf6 := freeB hn 6
  go_wp2_with fail
  have h1 := other (i := 2) (u := .int .i64 ((p : Int) + 1)) (other (i := 2) (u := .bool false) (other (i := 0) (u := .int .i64 1) hx hz4) hz4) hz2.symm
  have h2 := (other (i := 2) (u := .bool false) (other (i := 0) (u := .int .i64 1) hW2.out.rd hz3) hz3)
  have h3 := RdB.set2 (q := p + 1) h2
  have h4 := grown_trans (((grown_of_below (r := some b) hb2).setNew (Nat.le_of_lt hz1) 0 (.int .i64 1)).setNew (Nat.le_of_lt hz1) 2 (.bool false)) (grown_set _ b 2 (.int .i64 ((p : Int) + 1)))
  obtain ⟨e1, e2, e3⟩ := rd_end h1 h4 h3 hz2 (Nat.le_refl _) (.int .i64 1) (.int .i64 (P1 : Int)) (.bool false) (.string ⟨#[]⟩) (.slice none 0 0) (.slice none 0 0) (.slice none 0 0)
  exact bodyPost_ret (results_cell_row rfl _ _ w.heap.size 33 _ (0, 0) _ rfl e1 Tryz.underlying33 rfl info7) rfl ⟨e2, _, rfl, .flag _ _ _ _, e3⟩
set_option maxHeartbeats 2000000 in
set_option maxRecDepth 100000 in
theorem rvalue_bad {base : Nat} {v : Value} {ts : List Tk} (s : ByteArray) (p pl b K : Nat) (deep : Int) (w : World) (hW : RdW base s v ts p pl 0 b w) (hK : kindT ts p = K) (k1 : K ≠ 1) (k2 : K ≠ 2) (k3 : K ≠ 3) (k4 : K ≠ 4) (k5 : K ≠ 5) (k6 : K ≠ 6) (k8 : K ≠ 8) :
    Calls Tryz.prog 34 #[.pointer (some ⟨b, 0, none⟩), .int .i64 deep] w (PostRV s v ts.length pl b w (.err 2 (placeT s ts p))) := by
  have F := Lib.hid (fun q w hW => rfail_new s v p pl b q 2 w hW)
  have k1 : ((K : Int) == 1) = false := by simp; omega
  have k2 : ((K : Int) == 2) = false := by simp; omega
  have k3 : ((K : Int) == 3) = false := by simp; omega
  have k4 : ((K : Int) == 4) = false := by simp; omega
  have k5 : ((K : Int) == 5) = false := by simp; omega
  have k6 : ((K : Int) == 6) = false := by simp; omega
  have k8 : ((K : Int) == 8) = false := by simp; omega
  have k1' : ¬ (K : Int) = 1 := by simpa using k1
  have k2' : ¬ (K : Int) = 2 := by simpa using k2
  have k3' : ¬ (K : Int) = 3 := by simpa using k3
  have k4' : ¬ (K : Int) = 4 := by simpa using k4
  have k5' : ¬ (K : Int) = 5 := by simpa using k5
  have k6' : ¬ (K : Int) = 6 := by simpa using k6
  have k8' : ¬ (K : Int) = 8 := by simpa using k8
  have H := Lib.hid (fun w hW => here_calls (base := base) (v := v) (ts := ts) s p pl 0 b w hW)
  have N := Lib.hid (fun w hW => peek_calls (base := base) (v := v) (ts := ts) s p pl 0 b w hW)
  obtain ⟨P1, hP1⟩ : ∃ P1, P1 = placeT s ts p := ⟨_, rfl⟩
  rw [← hP1] at H ⊢
  rw [hK] at N
  have hbl := hW.lt
  have hpb : (p : Int) + 1 ≤ 3518437208884 := by have := hW.hl; have := hW.hp; omega
  replace hW := Lib.hid hW
  replace hP1 := Lib.hid hP1
  replace hK := Lib.hid hK
  go_enter Tryz.func34, Tryz.ntmps34
  (go_wp2_with fail; repeat (any_goals (go_quiet (fail); go_wp2_with fail)))
  refine (H.out _ (hW.out.next (by repeat (first | assumption | exact Below.refl _ _ | apply Below.drew | apply below_drewN | apply balloc | (refine Below.setCell ?_ (by first | omega | (simp <;> omega)) _))))).mono ?_
  rintro e w1 ⟨rfl, hb⟩
  have hb1 : Below w.heap.size w w1 := bcall (by repeat (first | assumption | exact Below.refl _ _ | apply Below.drew | apply below_drewN | apply balloc | (refine Below.setCell ?_ (by first | omega | (simp <;> omega)) _))) hb
  have hx := boxed hb
  have hz1 := ltB hx
  have hz2 : b ≠ w.heap.size := by omega
  have hz3 : b ≠ w1.heap.size := by omega
  have hz4 : w.heap.size ≠ w1.heap.size := by omega
  clear hb
  have hW1 := hW.out.next hb1
  have x4 := hW1.rd.c4
  have hbl1 := hW1.lt
  replace hW1 := Lib.hid hW1
  go_wp2_with fail
  refine (N.out _ (hW1.out.next (by repeat (first | assumption | exact Below.refl _ _ | apply Below.drew | apply below_drewN | apply balloc | (refine Below.setCell ?_ (by first | omega | (simp <;> omega)) _))))).mono ?_
  rintro e w2 ⟨rfl, hb⟩
  have hb2 : Below w.heap.size w w2 := bcall (balloc hb1) hb
  have hn := boxed hb
  replace hx := box_next hx (bcall (w := w1) (balloc (Below.refl _ _)) hb)
  clear hb x4
  have hW2 := hW.out.next hb2
  have x2 := hW2.rd.c2
  have f2 := freeB hW2.rd 2
  have hbl2 := hW2.lt
  have hx0 := ltB hx
  have hn0 := ltB hn
  replace hW2 := Lib.hid hW2
  have yc0 := cellB hx 0 rfl
  have yc1 := cellB hx 1 rfl
  have yc2 := cellB hx 2 rfl
  have yc3 := cellB hx 3 rfl
  have yc4 := cellB hx 4 rfl
  have yc5 := cellB hx 5 rfl
  have yc6 := cellB hx 6 rfl
  have yf0 := freeB hx 0
  have yf1 := freeB hx 1
  have yf2 := freeB hx 2
  have yf3 := freeB hx 3
  have yf4 := freeB hx 4
  have yf5 := freeB hx 5
  have yf6 := freeB hx 6
  have zc0 := cellB hn 0 rfl
  have zc1 := cellB hn 1 rfl
  have zc2 := cellB hn 2 rfl
  have zc3 := cellB hn 3 rfl
  have zc4 := cellB hn 4 rfl
  have zc5 := cellB hn 5 rfl
  have zc6 := cellB hn 6 rfl
  have zf0 := freeB hn 0
  have zf1 := freeB hn 1
  have zf2 := freeB hn 2
  have zf3 := freeB hn 3
  have zf4 := freeB hn 4
  have zf5 := freeB hn 5
  have zf6 := freeB hn 6
  go_wp2_with fail
  refine (H.out _ (hW2.out.next (by repeat (first | assumption | exact Below.refl _ _ | apply Below.drew | apply below_drewN | apply balloc | (refine Below.setCell ?_ (by first | omega | (simp <;> omega)) _))))).mono ?_
  rintro e w3 ⟨rfl, hb⟩
  have hb3 : Below w.heap.size w w3 := bcall hb2 hb
  replace hx := box_next hx hb
  replace hn := box_next hn hb
  clear hb yc0 yc1 yc2 yc3 yc4 yc5 yc6 yf0 yf1 yf2 yf3 yf4 yf5 yf6 zc0 zc1 zc2 zc3 zc4 zc5 zc6 zf0 zf1 zf2 zf3 zf4 zf5 zf6 x2 f2 hx0 hn0 hbl2
  go_wp2_with fail
  refine (F.out _ _ (hW.out.next hb3).rd).mono ?_
  rintro e w4 ⟨rfl, hr, hg⟩
  have hx := (hg.block _ (ltB hx) (by intro e; cases e; exact hz2 rfl)).trans hx
  have hn := (hg.block _ (ltB hn) (by intro e; cases e; exact hz3 rfl)).trans hn
  have hg4 := grown_trans (grown_of_below (r := some b) hb3) hg
  clear hg
  have yc0 := cellB hx 0 rfl
  have yc1 := cellB hx 1 rfl
  have yc2 := cellB hx 2 rfl
  have yc3 := cellB hx 3 rfl
  have yc4 := cellB hx 4 rfl
  have yc5 := cellB hx 5 rfl
  have yc6 := cellB hx 6 rfl
  have yf0 := freeB hx 0
  have yf1 := freeB hx 1
  have yf2 := freeB hx 2
  have yf3 := freeB hx 3
  have yf4 := freeB hx 4
  have yf5 := freeB hx 5
  have yf6 := freeB hx 6
  have zc0 := cellB hn 0 rfl
  have zc1 := cellB hn 1 rfl
  have zc2 := cellB hn 2 rfl
  have zc3 := cellB hn 3 rfl
  have zc4 := cellB hn 4 rfl
  have zc5 := cellB hn 5 rfl
  have zc6 := cellB hn 6 rfl
  have zf0 := freeB hn 0
  have zf1 := freeB hn 1
  have zf2 := freeB hn 2
  have zf3 := freeB hn 3
  have zf4 := freeB hn 4
  have zf5 := freeB hn 5
  have zf6 := freeB hn 6
  have hx0 := ltB hx
  have hn0 := ltB hn
  have hp := hW.out.hp
  replace hr := Lib.hid hr
  replace hp := Lib.hid hp
  go_wp2_with fail
  obtain ⟨e1, e2, e3⟩ := rd_end hx hg4 hr.out hz2 (Nat.le_refl _) (.int .i64 0) (.int .i64 (P1 : Int)) (.bool false) (.string ⟨#[]⟩) (.slice none 0 0) (.slice none 0 0) (.slice none 0 0)
  exact bodyPost_ret (results_cell_row rfl _ _ w.heap.size 33 _ (0, 0) _ rfl e1 Tryz.underlying33 rfl info7) rfl ⟨e2, 0, P1, false, noS, _, _, _, p, rfl, ⟨⟨_, _, _, rfl⟩, ⟨_, _, _, rfl⟩, ⟨_, _, _, rfl⟩⟩, hp.out, e3⟩

end Go.Proofs.YtibopkodoidjoaaGreatDoor

/- The reference's tree: value, numbers and texts. -/
namespace Go.Proofs.YtibopkodoidjoaaGreatDoor
open Go Go.RowKit

theorem drewH {w : World} {g : Nat} {o : Obj} (h : w.heap[g]? = some o) : w.drew.heap[g]? = some o := h
set_option maxHeartbeats 4000000 in
set_option maxRecDepth 100000 in
theorem rvalue_num {base : Nat} {v : Value} {ts : List Tk} (s : ByteArray) (p pl b : Nat) (deep : Int) (w : World) (hbd : ∀ T ∈ ts, T.fr ≤ T.to ∧ T.to ≤ s.size) (hW : RdW base s v ts p pl 0 b w) (hK : kindT ts p = 4) :
    Calls Tryz.prog 34 #[.pointer (some ⟨b, 0, none⟩), .int .i64 deep] w (PostRV s v ts.length pl b w (.ok (.num (placeT s ts p) (wordT s ts p)) (p + 1))) := by
  have hpl : p < ts.length := kindT_lt (by omega)
  have hT : ts[p]? = some ts[p] := List.getElem?_eq_getElem _
  generalize ts[p] = T at hT
  have hbT := hbd T (List.mem_of_getElem? hT)
  have hft : (T.fr : Int) ≤ (T.to : Int) := by omega
  have hts : (T.to : Int) ≤ (s.size : Int) := by omega
  have hw : wordT s ts p = s.extract T.fr T.to := by unfold wordT; rw [hT]
  rw [hw]
  rcases hW.own.form with ⟨hnil, rfl⟩ | ⟨g, cap, rfl, hbg, hgl, hnl, hcm⟩
  · rw [hnil] at hpl; exact absurd hpl (Nat.not_lt_zero _)
  obtain ⟨n, hn⟩ : ∃ n, n = ts.length := ⟨_, rfl⟩
  have hln := hW.hl
  rw [← hn] at hW hnl hpl hln ⊢
  have hpl' : (p : Int) < (n : Int) := by omega
  unfold maxLen at hcm
  have hcells := Lib.hid (fun w (ho : OwnT w base (.slice (some ⟨g, 0, none⟩) n cap) ts) => OwnT.at ho hT)
  replace hT := Lib.hid hT
  replace hn := Lib.hid hn
  replace hw := Lib.hid hw
  have H := Lib.hid (fun w hW => here_calls (base := base) (v := (.slice (some ⟨g, 0, none⟩) n cap)) (ts := ts) s p pl 0 b w hW)
  have N := Lib.hid (fun w hW => peek_calls (base := base) (v := (.slice (some ⟨g, 0, none⟩) n cap)) (ts := ts) s p pl 0 b w hW)
  obtain ⟨P1, hP1⟩ : ∃ P1, P1 = placeT s ts p := ⟨_, rfl⟩
  rw [← hP1] at H ⊢
  rw [hK] at N
  have hbl := hW.lt
  have hpb : (p : Int) + 1 ≤ 3518437208884 := by have := hW.hl; have := hW.hp; omega
  replace hW := Lib.hid hW
  replace hP1 := Lib.hid hP1
  replace hK := Lib.hid hK
  go_enter Tryz.func34, Tryz.ntmps34
  (go_wp2_with fail; repeat (any_goals (go_quiet (fail); go_wp2_with fail)))
  refine (H.out _ (hW.out.next (by repeat (first | assumption | exact Below.refl _ _ | apply Below.drew | apply below_drewN | apply balloc | (refine Below.setCell ?_ (by first | omega | (simp <;> omega)) _))))).mono ?_
  rintro e w1 ⟨rfl, hb⟩
  have hb1 : Below w.heap.size w w1 := bcall (by repeat (first | assumption | exact Below.refl _ _ | apply Below.drew | apply below_drewN | apply balloc | (refine Below.setCell ?_ (by first | omega | (simp <;> omega)) _))) hb
  have hx := boxed hb
  have hz1 := ltB hx
  have hz2 : b ≠ w.heap.size := by omega
  have hz3 : b ≠ w1.heap.size := by omega
  have hz4 : w.heap.size ≠ w1.heap.size := by omega
  clear hb
  have hW1 := hW.out.next hb1
  have x4 := hW1.rd.c4
  have hbl1 := hW1.lt
  replace hW1 := Lib.hid hW1
  go_wp2_with fail
  refine (N.out _ (hW1.out.next (by repeat (first | assumption | exact Below.refl _ _ | apply Below.drew | apply below_drewN | apply balloc | (refine Below.setCell ?_ (by first | omega | (simp <;> omega)) _))))).mono ?_
  rintro e w2 ⟨rfl, hb⟩
  have hb2 : Below w.heap.size w w2 := bcall (balloc hb1) hb
  have hn := boxed hb
  replace hx := box_next hx (bcall (w := w1) (balloc (Below.refl _ _)) hb)
  clear hb x4
  have hW2 := hW.out.next hb2
  have x2 := hW2.rd.c2
  have f2 := freeB hW2.rd 2
  have hbl2 := hW2.lt
  have hx0 := ltB hx
  have hn0 := ltB hn
  replace hW2 := Lib.hid hW2
  have yc0 := cellB hx 0 rfl
  have yc1 := cellB hx 1 rfl
  have yc2 := cellB hx 2 rfl
  have yc3 := cellB hx 3 rfl
  have yc4 := cellB hx 4 rfl
  have yc5 := cellB hx 5 rfl
  have yc6 := cellB hx 6 rfl
  have yf0 := freeB hx 0
  have yf1 := freeB hx 1
  have yf2 := freeB hx 2
  have yf3 := freeB hx 3
  have yf4 := freeB hx 4
  have yf5 := freeB hx 5
  have yf6 := freeB hx 6
  have zc0 := cellB hn 0 rfl
  have zc1 := cellB hn 1 rfl
  have zc2 := cellB hn 2 rfl
  have zc3 := cellB hn 3 rfl
  have zc4 := cellB hn 4 rfl
  have zc5 := cellB hn 5 rfl
  have zc6 := cellB hn 6 rfl
  have zf0 := freeB hn 0
  have zf1 := freeB hn 1
  have zf2 := freeB hn 2
  have zf3 := freeB hn 3
  have zf4 := freeB hn 4
  have zf5 := freeB hn 5
  have zf6 := freeB hn 6
  have x0 := hW2.out.rd.c0
  have x1 := hW2.out.rd.c1
  obtain ⟨t0, t1, t2, t3⟩ := hcells.out _ hW2.out.own
  go_wp2_with fail
  go_region
  go_wp2_with fail
  have h1 := other (i := 2) (u := .int .i64 ((p : Int) + 1)) (other (i := 3) (u := .string (s.extract T.fr T.to)) (other (i := 0) (u := .int .i64 2) hx hz4) hz4) hz2.symm
  have h2 := (other (i := 3) (u := .string (s.extract T.fr T.to)) (other (i := 0) (u := .int .i64 2) hW2.out.rd hz3) hz3)
  have h3 := RdB.set2 (q := p + 1) h2
  have h4 := grown_trans (((grown_of_below (r := some b) hb2).setNew (Nat.le_of_lt hz1) 0 (.int .i64 2)).setNew (Nat.le_of_lt hz1) 3 (.string (s.extract T.fr T.to))) (grown_set _ b 2 (.int .i64 ((p : Int) + 1)))
  obtain ⟨e1, e2, e3⟩ := rd_end h1 h4 h3 hz2 (Nat.le_refl _) (.int .i64 2) (.int .i64 (P1 : Int)) (.bool false) (.string (s.extract T.fr T.to)) (.slice none 0 0) (.slice none 0 0) (.slice none 0 0)
  exact bodyPost_ret (results_cell_row rfl _ _ w.heap.size 33 _ (0, 0) _ rfl (drewH e1) Tryz.underlying33 rfl info7) rfl ⟨grown_drew e2, _, rfl, .num _ _ _ _, drewH e3⟩

end Go.Proofs.YtibopkodoidjoaaGreatDoor

/- The reference's tree: value, texts. -/
namespace Go.Proofs.YtibopkodoidjoaaGreatDoor
open Go Go.RowKit

set_option maxHeartbeats 4000000 in
set_option maxRecDepth 100000 in
theorem rvalue_text {base : Nat} {v : Value} {ts : List Tk} (s : ByteArray) (p pl b : Nat) (deep : Int) (w : World) (hbd : ∀ T ∈ ts, T.fr ≤ T.to ∧ T.to ≤ s.size) (hW : RdW base s v ts p pl 0 b w) (hK : kindT ts p = 5) :
    Calls Tryz.prog 34 #[.pointer (some ⟨b, 0, none⟩), .int .i64 deep] w (PostRV s v ts.length pl b w (.ok (.text (placeT s ts p) (textT ts p)) (p + 1))) := by
  have hpl : p < ts.length := kindT_lt (by omega)
  have hT : ts[p]? = some ts[p] := List.getElem?_eq_getElem _
  generalize ts[p] = T at hT
  have hbT := hbd T (List.mem_of_getElem? hT)
  have hft : (T.fr : Int) ≤ (T.to : Int) := by omega
  have hts : (T.to : Int) ≤ (s.size : Int) := by omega
  have hw : textT ts p = T.text := by unfold textT; rw [hT]
  rw [hw]
  rcases hW.own.form with ⟨hnil, rfl⟩ | ⟨g, cap, rfl, hbg, hgl, hnl, hcm⟩
  · rw [hnil] at hpl; exact absurd hpl (Nat.not_lt_zero _)
  obtain ⟨n, hn⟩ : ∃ n, n = ts.length := ⟨_, rfl⟩
  have hln := hW.hl
  rw [← hn] at hW hnl hpl hln ⊢
  have hpl' : (p : Int) < (n : Int) := by omega
  unfold maxLen at hcm
  have hcells := Lib.hid (fun w (ho : OwnT w base (.slice (some ⟨g, 0, none⟩) n cap) ts) => OwnT.at ho hT)
  replace hT := Lib.hid hT
  replace hn := Lib.hid hn
  replace hw := Lib.hid hw
  have H := Lib.hid (fun w hW => here_calls (base := base) (v := (.slice (some ⟨g, 0, none⟩) n cap)) (ts := ts) s p pl 0 b w hW)
  have N := Lib.hid (fun w hW => peek_calls (base := base) (v := (.slice (some ⟨g, 0, none⟩) n cap)) (ts := ts) s p pl 0 b w hW)
  obtain ⟨P1, hP1⟩ : ∃ P1, P1 = placeT s ts p := ⟨_, rfl⟩
  rw [← hP1] at H ⊢
  rw [hK] at N
  have hbl := hW.lt
  have hpb : (p : Int) + 1 ≤ 3518437208884 := by have := hW.hl; have := hW.hp; omega
  replace hW := Lib.hid hW
  replace hP1 := Lib.hid hP1
  replace hK := Lib.hid hK
  go_enter Tryz.func34, Tryz.ntmps34
  (go_wp2_with fail; repeat (any_goals (go_quiet (fail); go_wp2_with fail)))
  refine (H.out _ (hW.out.next (by repeat (first | assumption | exact Below.refl _ _ | apply Below.drew | apply below_drewN | apply balloc | (refine Below.setCell ?_ (by first | omega | (simp <;> omega)) _))))).mono ?_
  rintro e w1 ⟨rfl, hb⟩
  have hb1 : Below w.heap.size w w1 := bcall (by repeat (first | assumption | exact Below.refl _ _ | apply Below.drew | apply below_drewN | apply balloc | (refine Below.setCell ?_ (by first | omega | (simp <;> omega)) _))) hb
  have hx := boxed hb
  have hz1 := ltB hx
  have hz2 : b ≠ w.heap.size := by omega
  have hz3 : b ≠ w1.heap.size := by omega
  have hz4 : w.heap.size ≠ w1.heap.size := by omega
  clear hb
  have hW1 := hW.out.next hb1
  have x4 := hW1.rd.c4
  have hbl1 := hW1.lt
  replace hW1 := Lib.hid hW1
  go_wp2_with fail
  refine (N.out _ (hW1.out.next (by repeat (first | assumption | exact Below.refl _ _ | apply Below.drew | apply below_drewN | apply balloc | (refine Below.setCell ?_ (by first | omega | (simp <;> omega)) _))))).mono ?_
  rintro e w2 ⟨rfl, hb⟩
  have hb2 : Below w.heap.size w w2 := bcall (balloc hb1) hb
  have hn := boxed hb
  replace hx := box_next hx (bcall (w := w1) (balloc (Below.refl _ _)) hb)
  clear hb x4
  have hW2 := hW.out.next hb2
  have x2 := hW2.rd.c2
  have f2 := freeB hW2.rd 2
  have hbl2 := hW2.lt
  have hx0 := ltB hx
  have hn0 := ltB hn
  replace hW2 := Lib.hid hW2
  have yc0 := cellB hx 0 rfl
  have yc1 := cellB hx 1 rfl
  have yc2 := cellB hx 2 rfl
  have yc3 := cellB hx 3 rfl
  have yc4 := cellB hx 4 rfl
  have yc5 := cellB hx 5 rfl
  have yc6 := cellB hx 6 rfl
  have yf0 := freeB hx 0
  have yf1 := freeB hx 1
  have yf2 := freeB hx 2
  have yf3 := freeB hx 3
  have yf4 := freeB hx 4
  have yf5 := freeB hx 5
  have yf6 := freeB hx 6
  have zc0 := cellB hn 0 rfl
  have zc1 := cellB hn 1 rfl
  have zc2 := cellB hn 2 rfl
  have zc3 := cellB hn 3 rfl
  have zc4 := cellB hn 4 rfl
  have zc5 := cellB hn 5 rfl
  have zc6 := cellB hn 6 rfl
  have zf0 := freeB hn 0
  have zf1 := freeB hn 1
  have zf2 := freeB hn 2
  have zf3 := freeB hn 3
  have zf4 := freeB hn 4
  have zf5 := freeB hn 5
  have zf6 := freeB hn 6
  have x0 := hW2.out.rd.c0
  have x1 := hW2.out.rd.c1
  obtain ⟨t0, t1, t2, t3⟩ := hcells.out _ hW2.out.own
  go_wp2_with fail
  go_region
  go_wp2_with fail
  have h1 := other (i := 2) (u := .int .i64 ((p : Int) + 1)) (other (i := 3) (u := .string T.text) (other (i := 0) (u := .int .i64 3) hx hz4) hz4) hz2.symm
  have h2 := (other (i := 3) (u := .string T.text) (other (i := 0) (u := .int .i64 3) hW2.out.rd hz3) hz3)
  have h3 := RdB.set2 (q := p + 1) h2
  have h4 := grown_trans (((grown_of_below (r := some b) hb2).setNew (Nat.le_of_lt hz1) 0 (.int .i64 3)).setNew (Nat.le_of_lt hz1) 3 (.string T.text)) (grown_set _ b 2 (.int .i64 ((p : Int) + 1)))
  obtain ⟨e1, e2, e3⟩ := rd_end h1 h4 h3 hz2 (Nat.le_refl _) (.int .i64 3) (.int .i64 (P1 : Int)) (.bool false) (.string T.text) (.slice none 0 0) (.slice none 0 0) (.slice none 0 0)
  exact bodyPost_ret (results_cell_row rfl _ _ w.heap.size 33 _ (0, 0) _ rfl (drewH e1) Tryz.underlying33 rfl info7) rfl ⟨grown_drew e2, _, rfl, .text _ _ _ _, drewH e3⟩

end Go.Proofs.YtibopkodoidjoaaGreatDoor

/- Package tree: the parser reads a list. -/
namespace Go.Proofs.YtibopkodoidjoaaGreatDoor
open Go Go.RowKit

def comb {α : Type} (xs : List α) : PR (List α) → PR (List α)
  | .ok ys q => .ok (xs ++ ys) q
  | .err k pl => .err k pl
  | .out => .out
theorem comb_nil {α : Type} (r : PR (List α)) : comb [] r = r := by cases r <;> rfl
theorem grown_own {a w w' : World} {b : Nat} {o : Option Nat} (h : a.grownBy w (some b)) (k : w.grownBy w' o) (ho : ∀ g, o = some g → a.heap.size ≤ g) : a.grownBy w' (some b) :=
  ⟨k.os.trans h.os, k.tape.trans h.tape, k.output.trans h.output, Nat.le_trans h.size k.size, fun i hi hr => (k.block i (Nat.lt_of_lt_of_le hi h.size) (fun e => by have := ho i e.symm; omega)).trans (h.block i hi hr)⟩
theorem PsB.inc {s : ByteArray} {v : Value} {p b : Nat} {w : World} (h : PsB s v p b w) : PsB s v (p + 1) b (w.setCell ⟨b, 2, none⟩ (.int .i64 ((p : Int) + 1))) := h.set
theorem PsB.row {s : ByteArray} {v : Value} {p b : Nat} {w w' : World} {o : Option Nat} (h : PsB s v p b w) (k : w.grownBy w' o) (ho : o ≠ some b) : PsB s v p b w' := (k.block b (ltB h) (fun e => ho e.symm)).trans h
theorem grown_belowR {a w w' : World} {b : Nat} (h : a.grownBy w (some b)) (k : Below w.heap.size w w') : a.grownBy w' (some b) := grown_trans h (grown_of_below k)
theorem OwnN.form {w : World} {lo hi : Nat} {u : Value} {x : Nd} (h : OwnN w lo hi u x) : ∃ t a, u = .iface t a := by cases h <;> exact ⟨_, _, rfl⟩
set_option maxHeartbeats 4000000 in
set_option maxRecDepth 100000 in
theorem items_calls {A : Nat → Addr} {B base : Nat} {s : ByteArray} {v : Value} {ts : List Tk} (f : Nat) (hV : ∀ f', f' < f → VC A B base s v ts f') (deep p b : Nat) (w : World) (hW : PsW A B base s v ts p b w) (h8 : kindT ts p = 8) (hd : deep < 64) (hl : ts.length ≤ 3518437208882)
    (r : PR (List Nd)) (hr : r = if kindT ts (p + 1) = 9 then .ok [] (p + 2) else pI s ts f deep (p + 1)) (hout : r ≠ .out) :
    Calls Tryz.prog 59 #[.pointer (some ⟨b, 0, none⟩), .int .i64 (deep : Int)] w (PostI A s v b w r) := by
  have hbl := hW.lt
  replace hW := Lib.hid hW
  replace hV := Lib.hid hV
  replace hr := Lib.hid hr
  replace hout := Lib.hid hout
  replace hl := Lib.hid hl
  go_enter Tryz.func59, Tryz.ntmps59
  (go_wp2_with fail; repeat (any_goals (go_quiet (fail); go_wp2_with fail)))
  refine (PsW.take_ok hW.out h8 (by decide)).mono ?_
  rintro e w1 ⟨⟨T, hT, rfl⟩, hW1, hg1⟩
  replace hT := Lib.hid hT
  unfold tkV
  by_cases h9 : kindT ts (p + 1) = 9
  · have hr1 := hr.out
    rw [if_pos h9] at hr1
    replace hr1 := Lib.hid hr1
    have N := Lib.hid (fun w (h : PsW A B base s v ts (p + 1) b w) => h.next_calls h9)
    have hpb : ((p + 1 : Nat) : Int) ≤ 3518437208882 := by have := hW1.hp; have := hl.out; omega
    generalize hp1 : p + 1 = p1 at *
    replace hp1 := Lib.hid hp1
    replace hW1 := Lib.hid hW1
    replace hg1 := Lib.hid hg1
    (go_wp2_with fail; repeat (any_goals (go_quiet (fail); go_wp2_with fail)))
    refine (N.out _ hW1.out).mono ?_
    rintro e w2 ⟨rfl, hb⟩
    have hW2 := hW1.out.next hb
    have hg2 := grown_belowR hg1.out hb
    clear hb
    have x2 := hW2.ps.c2
    have f2 := freeB hW2.ps 2
    replace hW2 := Lib.hid hW2
    replace hg2 := Lib.hid hg2
    (go_wp2_with fail; repeat (any_goals (go_quiet (fail); go_wp2_with fail)))
    go_ret
    refine ⟨grown_trans hg2.out (grown_set _ _ _ _), ?_⟩
    rw [hr1.out]
    refine ⟨_, [], rfl, Kids.nil _ _ _ _ _, rfl, ?_⟩
    have h1 := hW2.out.ps.inc
    rw [show p1 + 1 = p + 2 by have := hp1.out; omega] at h1
    exact h1
  · have hr1 := hr.out
    rw [if_neg h9] at hr1
    replace hr1 := Lib.hid hr1
    have N := Lib.hid (fun w (h : PsW A B base s v ts (p + 1) b w) => h.next_calls (k := kindT ts (p + 1)) rfl)
    have hne : ((kindT ts (p + 1) : Int) == 9) = false := by simp; omega
    have hne' : ¬ (kindT ts (p + 1) : Int) = 9 := by omega
    have hp1le := hW1.hp
    generalize hp1 : p + 1 = p1 at *
    generalize hK : kindT ts p1 = K1 at *
    replace hp1 := Lib.hid hp1
    replace hK := Lib.hid hK
    replace hW1 := Lib.hid hW1
    replace hg1 := Lib.hid hg1
    (go_wp2_with fail; repeat (any_goals (go_quiet (fail); go_wp2_with fail)))
    refine (N.out _ hW1.out).mono ?_
    rintro e w2 ⟨rfl, hb⟩
    have hW2 := hW1.out.next hb
    have hg2 := grown_belowR hg1.out hb
    clear hb
    replace hW2 := Lib.hid hW2
    replace hg2 := Lib.hid hg2
    (go_wp2_with fail; repeat (any_goals (go_quiet (fail); go_wp2_with fail)))
    go_loopg [5] f (fun kq lv wr => ∃ (q : Nat) (cs : List Kid), PsB s v q b wr ∧ Hid (w.grownBy wr (some b)) ∧ Hid (Kids 24 1 (fun c => [c.u]) w.heap.size wr lv cs) ∧ Hid (cs.length ≤ q ∧ q ≤ ts.length ∧ kq ≤ f ∧ comb (cs.map Kid.x) (pI s ts kq deep q) = r))
    case atStart => exact ⟨p1, [], hW2.out.ps, hg2, Lib.hid (Kids.nil _ _ _ _ _), Lib.hid ⟨Nat.zero_le _, hp1le, Nat.le_refl _, by rw [hr1.out]; exact comb_nil _⟩⟩
    case round =>
      obtain ⟨q, cs, hps, hg, hKs, H⟩ := hrel
      clear N hne hne' 
      have hpo := Lib.hid (hW.out.step hg.out hps H.out.2.1)
      have hg1 := hg.out.size
      have hgo := H.out.2.2.2
      cases gk with
      | zero => exact absurd (hgo.symm.trans (by rw [pI]; rfl)) hout.out
      | succ f1 =>
        rw [pI] at hgo
        have hVf := hV.out f1 (by have := H.out.2.2.1; omega)
        have hnv : pV s ts f1 (deep + 1) q ≠ .out := by
          intro h
          rw [h] at hgo
          exact hout.out hgo.symm
        have V := Lib.hid (hVf (deep + 1) q b wr hnv (by omega) hpo.out)
        have hd1 : ((deep + 1 : Nat) : Int) = (deep : Int) + 1 := by omega
        rw [hd1] at V
        have fit := (p_goes s ts f1).1 (deep + 1) q
        generalize hR : pV s ts f1 (deep + 1) q = R at *
        replace hR := Lib.hid hR
        cases R with
        | out => exact absurd rfl hnv
        | err k pl =>
          replace hgo := Lib.hid hgo
          (go_wp2_with fail; repeat (any_goals (go_quiet (fail); go_wp2_with fail)))
          refine V.out.mono ?_
          rintro e w3 ⟨hg3, g, hgg, rfl, hat⟩
          have hg4 := grown_trans hg.out hg3
          have hz := hg.out.size
          refine ⟨rfl, ?_⟩
          show PostI A s v b w r _ w3
          rw [← hgo.out]
          exact ⟨hg4, g, Nat.le_trans hz hgg, rfl, hat⟩
        | ok x q1 =>
          replace hgo := Lib.hid hgo
          (go_wp2_with fail; repeat (any_goals (go_quiet (fail); go_wp2_with fail)))
          refine V.out.mono ?_
          rintro e w3 ⟨hg3, u, rfl, hN, hps3⟩
          have hg4 := grown_trans hg.out hg3
          have hK3 := hKs.out.grown hg3 hbl
          obtain ⟨ut, ua, rfl⟩ := hN.form
          have hfit : q < q1 ∧ q1 ≤ ts.length := fit
          have hle : ∀ c ∈ cs, c.h ≤ wr.heap.size := fun c hm => (hKs.out.fit c hm).2.2.1
          have hlv : ∀ k, u5.ownBlock = some k → k < wr.heap.size := fun k e => (hKs.out.own.lt k e).2
          have hzr := hg3.size
          clear hKs hps
          replace hN := Lib.hid hN
          replace hK3 := Lib.hid hK3
          replace hg4 := Lib.hid hg4
          replace hg3 := Lib.hid hg3
          replace hps3 := Lib.hid hps3
          replace hle := Lib.hid hle
          replace hlv := Lib.hid hlv
          go_wp2_with (at_builtin; refine app_kid rfl _ _ 96 24 1 16 (fun c => [c.u]) .nilIface infoNd rfl (by decide) (by decide) (fun _ => rfl) Tryz.underlying96 rfl w.heap.size wr.heap.size u5 cs rfl (hK3.out.alloc _) w3.heap.size 1 ⟨noS, 0, wr.heap.size, w3.heap.size + 1, .iface ut ua, x⟩ #[.iface ut ua] 24 rfl (heap_alloc_new w3 _) rfl ?c1 hg1 ?c2 hle.out hlv.out rfl ?c3 ?c4 ?c5 ?_)
          case c1 => have := H.out.1; have := H.out.2.1; have := hl.out; omega
          case c2 => simp; omega
          case c4 => exact (hN.out.keep fun k _ h2 => Below.heap_alloc _ _ _ h2).wide (Nat.le_refl _) (by simp)
          case c5 => rfl
          intro v' w4 hK4 hg5 hv'
          have hne5 : u5.ownBlock ≠ some b := fun e => by have := (hK3.out.own.lt b e).1; omega
          have hps4 : PsB s v q1 b w4 := PsB.row (hps3.out.next ((Below.refl w3.heap.size w3).alloc (Nat.le_refl _) _)) hg5 hne5
          have hg6 : w.grownBy w4 (some b) := grown_own (grown_trans hg4.out (World.grownBy_alloc _ _ _)) hg5 (fun k e => (hK3.out.own.lt k e).1)
          have hP4 := hW.out.step hg6 hps4 hfit.2
          clear hg5 hne5 hps3 hg4 hK3 hle hlv hN
          replace hK4 := Lib.hid hK4
          replace hg6 := Lib.hid hg6
          have fitr := rest_fits s ts 9 q1 (by decide)
          have hrs := Lib.hid hgo.out
          unfold rest at fitr hgo
          have N := Lib.hid (fun w (h : PsW A B base s v ts q1 b w) => h.next_calls (k := kindT ts q1) rfl)
          by_cases k9 : kindT ts q1 = 9
          · rw [if_pos k9] at hgo
            rw [k9] at N
            have hqb : (q1 : Int) ≤ 3518437208882 := by have := hl.out; omega
            replace hP4 := Lib.hid hP4
            (go_wp2_with fail; repeat (any_goals (go_quiet (fail); go_wp2_with fail)))
            refine (N.out _ hP4.out).mono ?_
            rintro e w5 ⟨rfl, hb⟩
            have hP5 := hP4.out.next hb
            have hg7 := grown_belowR hg6.out hb
            have hK5 := hK4.out.below hb
            clear hb
            have x2 := hP5.ps.c2
            have f2 := freeB hP5.ps 2
            replace hP5 := Lib.hid hP5
            replace hg7 := Lib.hid hg7
            replace hK5 := Lib.hid hK5
            (go_wp2_with fail; repeat (any_goals (go_quiet (fail); go_wp2_with fail)))
            go_ret
            refine ⟨grown_trans hg7.out (grown_set _ _ _ _), ?_⟩
            rw [← hgo]
            exact ⟨v', _, rfl, hK5.out.grown (grown_set _ _ _ _) hbl, by rw [List.map_append]; rfl, hP5.out.ps.inc⟩
          · rw [if_neg k9] at hgo
            have hne5 : ((kindT ts q1 : Int) == 9) = false := by simp; omega
            have hne6 : ¬ (kindT ts q1 : Int) = 9 := by omega
            by_cases k11 : kindT ts q1 = 11
            · rw [if_pos k11] at hgo
              have TK := Lib.hid (fun w (h : PsW A B base s v ts q1 b w) => h.take_ok k11 (by decide))
              have hql := kindT_lt (ts := ts) (p := q1) (by omega)
              replace k11 := Lib.hid k11
              generalize kindT ts q1 = K2 at *
              replace hP4 := Lib.hid hP4
              replace hgo := Lib.hid hgo
              (go_wp2_with fail; repeat (any_goals (go_quiet (fail); go_wp2_with fail)))
              refine (N.out _ hP4.out).mono ?_
              rintro e w5 ⟨rfl, hb⟩
              have hP5 := hP4.out.next hb
              have hg7 := grown_belowR hg6.out hb
              have hK5 := hK4.out.below hb
              clear hb
              replace hP5 := Lib.hid hP5
              replace hg7 := Lib.hid hg7
              replace hK5 := Lib.hid hK5
              (go_wp2_with fail; repeat (any_goals (go_quiet (fail); go_wp2_with fail)))
              refine (TK.out _ hP5.out).mono ?_
              rintro e w6 ⟨⟨T2, _, rfl⟩, hP6, hg8⟩
              unfold tkV
              have hK6 := hK5.out.grown hg8 hbl
              have hg9 := grown_trans hg7.out hg8
              replace hP6 := Lib.hid hP6
              (go_wp2_with fail; repeat (any_goals (go_quiet (fail); go_wp2_with fail)))
              go_roundg f1
              case measure => omega
              case rel =>
                refine ⟨q1 + 1, cs ++ [_], hP6.out.ps, Lib.hid hg9, Lib.hid hK6, Lib.hid ⟨?_, hql, by have := H.out.2.2.1; omega, ?_⟩⟩
                · rw [List.length_append, List.length_singleton]; have := H.out.1; omega
                · rw [← hgo.out, List.map_append]
                  show comb (cs.map Kid.x ++ [x]) _ = comb (cs.map Kid.x) _
                  cases pI s ts f1 deep (q1 + 1) with
                  | ok ys q => show PR.ok _ _ = PR.ok _ _; rw [List.append_assoc]; rfl
                  | err k pl => rfl
                  | out => rfl
            · rw [if_neg k11] at hgo
              have TK := Lib.hid (fun w (h : PsW A B base s v ts q1 b w) => h.take_bad k11)
              replace k11 := Lib.hid k11
              generalize kindT ts q1 = K2 at *
              replace hP4 := Lib.hid hP4
              replace hgo := Lib.hid hgo
              (go_wp2_with fail; repeat (any_goals (go_quiet (fail); go_wp2_with fail)))
              refine (N.out _ hP4.out).mono ?_
              rintro e w5 ⟨rfl, hb⟩
              have hP5 := hP4.out.next hb
              have hg7 := grown_belowR hg6.out hb
              clear hb
              replace hP5 := Lib.hid hP5
              replace hg7 := Lib.hid hg7
              (go_wp2_with fail; repeat (any_goals (go_quiet (fail); go_wp2_with fail)))
              refine (TK.out _ hP5.out).mono ?_
              rintro e w6 ⟨⟨g, hgg, rfl, hat⟩, hb⟩
              have hz := hg7.out.size
              refine ⟨rfl, ?_⟩
              show PostI A s v b w r _ w6
              rw [← hgo.out]
              exact ⟨grown_belowR hg7.out hb, g, Nat.le_trans hz hgg, rfl, hat⟩

end Go.Proofs.YtibopkodoidjoaaGreatDoor

/- The reference's tree: the reader's lists. -/
namespace Go.Proofs.YtibopkodoidjoaaGreatDoor
open Go Go.RowKit

theorem infoRd : (Tryz.prog.info? 33).map (fun i => (i.zero, i.size, i.bytes)) = some (some (.agg #[.int .i64 0, .int .i64 0, .bool false, .string ⟨#[]⟩, .slice none 0 0, .slice none 0 0, .slice none 0 0]), 7, 112) := by kernel_rfl
section
variable {ops : Array Oper} {rest : List Oper} {o : Oper} {a : Act} {Q : Exit → Act → World → Prop} {w : World}
/-- append(row, one). -/
theorem app_row (hgd : o.guard = none) (sl x : Operand) (t e : TypeId) (size bytes : Nat) (z : Value) (hi : (Tryz.prog.info? e).map (fun i => (i.zero, i.size, i.bytes)) = some (some z, size, bytes)) (hz : z.cells.size = size) (hsz : 0 < size) (hby : bytes ≤ 112)
    (ht : Tryz.prog.underlying t = some (.slice e)) (ho : o.op = .call { callee := .builtin .append, args := #[sl, x], argTypes := #[t, t] }) (n0 : Nat) (v : Value) (n : Nat) (xs : List Value) (hs : a.eval sl = v) (hK : w.ownsRow n0 e size v n xs)
    (g cp : Nat) (ys : List Value) (cur : Array Value) (t' : TypeId) (hx : a.eval x = .slice (some ⟨g, 0, none⟩) 1 cp) (hg : w.heap[g]? = some (.cells cur t' (0, 0))) (hcur : cur = ys.toArray) (hys : ys.length = size)
    (hlen : n + 1 ≤ 2097152) (hn : n0 ≤ w.heap.size) (h1 : ∀ u ∈ ys, u.oneCell' = true)
    (h : ∀ v' w', w'.ownsRow n0 e size v' (n + 1) (xs ++ ys) → w.grownBy w' v.ownBlock → (v'.ownBlock = v.ownBlock ∨ ∃ g, v'.ownBlock = some g ∧ w.heap.size ≤ g) → wpList Tryz.prog ops Q rest (a.put o.dst v') w') : wpList Tryz.prog ops Q (o :: rest) a w := by
  obtain ⟨i0, hi, hi2⟩ := Option.map_eq_some_iff.1 hi
  simp only [Prod.mk.injEq] at hi2
  refine wpList_append_own_at _ hgd sl x t ho n0 e i0 z size bytes ht hi hi2.1 hi2.2.1 hi2.2.2 hz hsz v n xs hs hK ⟨g, 0, none⟩ 1 cp ys hx (by rw [hys]; omega) ?_ h1 (by unfold maxLen; omega) ?_ hn ?_
  · intro j u hj
    have : (⟨g, 0, none⟩ : Addr).add j = ⟨g, j, none⟩ := by simp only [Addr.add, Nat.zero_add]; split <;> simp_all
    rw [this]
    refine cellB hg j ?_
    rw [hcur, List.getElem?_toArray]
    exact hj
  · have := Nat.mul_le_mul hlen hby
    omega
  · intro v' w' ho2 hg2 _ hv
    refine h v' w' ho2 hg2 ?_
    rcases hv with hv | hv
    · exact Or.inl hv
    · exact Or.inr ⟨_, hv, Nat.le_refl _⟩
end
/-- What items answers. -/
def PostRI (s : ByteArray) (v : Value) (n pl0 P b : Nat) (w : World) (r : PR (List Nd)) (e : Ending) (w' : World) : Prop :=
  w.grownBy w' (some b) ∧ ∃ vi, e = .returned (.agg #[.int .i64 4, .int .i64 (P : Int), .bool false, .string ⟨#[]⟩, vi, .slice none 0 0, .slice none 0 0]) ∧ match r with
    | .ok xs q => ∃ cs : List RKid, w'.ownsRow w.heap.size 33 7 vi cs.length (cs.flatMap RKid.u) ∧ RKids w.heap.size w' [vi.ownBlock] cs ∧ cs.map RKid.x = xs ∧ RdB s v q pl0 0 b w'
    | .err k pl => isSl vi ∧ ∃ q, q ≤ n ∧ RdB s v q pl k b w'
    | .out => True

end Go.Proofs.YtibopkodoidjoaaGreatDoor

/- The reference's tree: the reader's lists, walked. -/
namespace Go.Proofs.YtibopkodoidjoaaGreatDoor
open Go Go.RowKit

theorem rdC_arr (n p : Nat) (f : Bool) (t : ByteArray) (vi vk vp : Value) : (rdC n p f t vi vk vp).toArray = #[.int .i64 (n : Int), .int .i64 (p : Int), .bool f, .string t, vi, vk, vp] := rfl
theorem set7_grown (W : World) (g : Nat) (b0 b1 b2 b3 b4 b5 b6 : Value) : W.grownBy (((((((W.setCell ⟨g, 0, none⟩ b0).setCell ⟨g, 1, none⟩ b1).setCell ⟨g, 2, none⟩ b2).setCell ⟨g, 3, none⟩ b3).setCell ⟨g, 4, none⟩ b4).setCell ⟨g, 5, none⟩ b5).setCell ⟨g, 6, none⟩ b6) (some g) :=
  grown_trans (grown_trans (grown_trans (grown_trans (grown_trans (grown_trans (grown_set _ _ _ _) (grown_set _ _ _ _)) (grown_set _ _ _ _)) (grown_set _ _ _ _)) (grown_set _ _ _ _)) (grown_set _ _ _ _)) (grown_set _ _ _ _)
theorem row_grown {w w' : World} {n0 n c size : Nat} {e : TypeId} {v : Value} {xs : List Value} (h : w.ownsRow n0 e size v n xs) (hg : w.grownBy w' (some c)) (hc : c < n0) : w'.ownsRow n0 e size v n xs :=
  ownsRow_heap h fun k e => hg.block k (h.lt k e).2 (by intro e2; cases e2; have := (h.lt _ e).1; omega)
theorem row_below {w w' : World} {n0 n size : Nat} {e : TypeId} {v : Value} {xs : List Value} (h : w.ownsRow n0 e size v n xs) (hb : Below w.heap.size w w') : w'.ownsRow n0 e size v n xs :=
  ownsRow_heap h fun k e => hb.block k (h.lt k e).2
theorem RKids.base {n0 n1 : Nat} {w : World} {os : List (Option Nat)} {cs : List RKid} (h : RKids n0 w os cs) (hn : n1 ≤ n0) : RKids n1 w os cs :=
  ⟨fun c hm => (h.fit c hm).wide hn (Nat.le_refl _), h.off, h.kid⟩
theorem RKids.other {n0 c : Nat} {w w' : World} {os : List (Option Nat)} {cs : List RKid} (h : RKids n0 w os cs) (hg : w.grownBy w' (some c)) (hc : c < n0) : RKids n0 w' os cs :=
  h.grow hg (Or.inl fun k e => by cases e; exact hc) fun o ho => Or.inl ho
set_option maxHeartbeats 4000000 in
set_option maxRecDepth 100000 in
theorem ritems_calls {base : Nat} {s : ByteArray} {v : Value} {ts : List Tk} (f : Nat) (hV : ∀ f', f' < f → RVC base s v ts f') (deep p pl P b : Nat) (w : World) (hW : RdW base s v ts p pl 0 b w) (hd : deep < 64) (hl : ts.length ≤ 1048577)
    (r : PR (List Nd)) (hr : r = if kindT ts p = 9 then .ok [] (p + 1) else pI s ts f deep p) (hout : r ≠ .out) :
    Calls Tryz.prog 62 #[.pointer (some ⟨b, 0, none⟩), .agg #[.int .i64 0, .int .i64 (P : Int), .bool false, .string ⟨#[]⟩, .slice none 0 0, .slice none 0 0, .slice none 0 0], .int .i64 (deep : Int)] w (PostRI s v ts.length pl P b w r) := by
  have hbl := hW.lt
  replace hV := Lib.hid hV
  replace hr := Lib.hid hr
  replace hout := Lib.hid hout
  by_cases h9 : kindT ts p = 9
  · have N := Lib.hid (fun w hW => peek_calls (base := base) (v := v) (ts := ts) s p pl 0 b w hW)
    rw [h9] at N
    have hpb : (p : Int) + 1 ≤ 3518437208884 := by have := hW.hl; have := hW.hp; omega
    replace hW := Lib.hid hW
    replace hl := Lib.hid hl
    replace h9 := Lib.hid h9
    go_enter Tryz.func62, Tryz.ntmps62
    (go_wp2_with fail; repeat (any_goals (go_quiet (fail); go_wp2_with fail)))
    refine (N.out _ (hW.out.next (by repeat (first | assumption | exact Below.refl _ _ | apply Below.drew | apply below_drewN | apply balloc | (refine Below.setCell ?_ (by first | omega | (simp <;> omega)) _))))).mono ?_
    rintro e w1 ⟨rfl, hb⟩
    have hb1 : Below w.heap.size w w1 := bcall (by repeat (first | assumption | exact Below.refl _ _ | apply Below.drew | apply below_drewN | apply balloc | (refine Below.setCell ?_ (by first | omega | (simp <;> omega)) _))) hb
    have hn := box_next (box_next (heap_alloc_new w (.cells #[.int .i64 4, .int .i64 (P : Int), .bool false, .string ⟨#[]⟩, .slice none 0 0, .slice none 0 0, .slice none 0 0] 33 (0, 0))) (balloc (Below.refl _ _))) hb
    have hx := boxed hb
    rw [show ∀ o, (w.alloc o).heap.size = w.heap.size + 1 from fun o => by simp] at hx
    clear hb
    have hW1 := hW.out.next hb1
    have x2 := hW1.rd.c2
    have f2 := freeB hW1.rd 2
    have hbl1 := hW1.lt
    have hn0 := ltB hn
    have hx0 := ltB hx
    have hz1 : b ≠ w.heap.size := by omega
    have hz2 : b ≠ w.heap.size + 1 := by omega
    have hz3 : w.heap.size ≠ w.heap.size + 1 := by omega
    have hz4 : w.heap.size + 1 ≠ w.heap.size := by omega
    replace hW1 := Lib.hid hW1
    have zc0 := cellB hn 0 rfl
    have zc1 := cellB hn 1 rfl
    have zc2 := cellB hn 2 rfl
    have zc3 := cellB hn 3 rfl
    have zc4 := cellB hn 4 rfl
    have zc5 := cellB hn 5 rfl
    have zc6 := cellB hn 6 rfl
    have zf0 := freeB hn 0
    have zf1 := freeB hn 1
    have zf2 := freeB hn 2
    have zf3 := freeB hn 3
    have zf4 := freeB hn 4
    have zf5 := freeB hn 5
    have zf6 := freeB hn 6
    have yc0 := cellB hx 0 rfl
    have yc1 := cellB hx 1 rfl
    have yc2 := cellB hx 2 rfl
    have yc3 := cellB hx 3 rfl
    have yc4 := cellB hx 4 rfl
    have yc5 := cellB hx 5 rfl
    have yc6 := cellB hx 6 rfl
    have yf0 := freeB hx 0
    have yf1 := freeB hx 1
    have yf2 := freeB hx 2
    have yf3 := freeB hx 3
    have yf4 := freeB hx 4
    have yf5 := freeB hx 5
    have yf6 := freeB hx 6
    go_wp2_with fail
    have hr1 : r = .ok [] (p + 1) := by rw [hr.out, if_pos h9.out]
    have h1 := other (i := 2) (u := .int .i64 ((p : Int) + 1)) hx hz2.symm
    have h3 := RdB.set2 (q := p + 1) hW1.out.rd
    have h4 := grown_trans (grown_of_below (r := some b) hb1) (grown_set _ b 2 (.int .i64 ((p : Int) + 1)))
    obtain ⟨e1, e2, e3⟩ := rd_end h1 h4 h3 hz2 (Nat.le_succ _) (.int .i64 4) (.int .i64 (P : Int)) (.bool false) (.string ⟨#[]⟩) (.slice none 0 0) (.slice none 0 0) (.slice none 0 0)
    refine bodyPost_ret (results_cell_row rfl _ _ (w.heap.size + 1) 33 _ (0, 0) _ rfl e1 Tryz.underlying33 rfl info7) rfl ⟨e2, _, rfl, ?_⟩
    rw [hr1]
    exact ⟨[], World.ownsRow_nil _ _ _ _, RKids.nil _ _ _, rfl, e3⟩
  · have hr1 : r = pI s ts f deep p := by rw [hr.out, if_neg h9]
    have N := Lib.hid (fun w hW => peek_calls (base := base) (v := v) (ts := ts) s p pl 0 b w hW)
    have hK1 : ((kindT ts p : Int) == 9) = false := by simp; omega
    have hK2 : ¬ (kindT ts p : Int) = 9 := by omega
    have hple := hW.hp
    generalize kindT ts p = K at *
    replace hr1 := Lib.hid hr1
    replace hW := Lib.hid hW
    go_enter Tryz.func62, Tryz.ntmps62
    (go_wp2_with fail; repeat (any_goals (go_quiet (fail); go_wp2_with fail)))
    refine (N.out _ (hW.out.next (by repeat (first | assumption | exact Below.refl _ _ | apply Below.drew | apply below_drewN | apply balloc | (refine Below.setCell ?_ (by first | omega | (simp <;> omega)) _))))).mono ?_
    rintro e w1 ⟨rfl, hb⟩
    have hb1 : Below w.heap.size w w1 := bcall (by repeat (first | assumption | exact Below.refl _ _ | apply Below.drew | apply below_drewN | apply balloc | (refine Below.setCell ?_ (by first | omega | (simp <;> omega)) _))) hb
    have hn := box_next (box_next (heap_alloc_new w (.cells #[.int .i64 4, .int .i64 (P : Int), .bool false, .string ⟨#[]⟩, .slice none 0 0, .slice none 0 0, .slice none 0 0] 33 (0, 0))) (balloc (Below.refl _ _))) hb
    have hx := boxed hb
    rw [show ∀ o, (w.alloc o).heap.size = w.heap.size + 1 from fun o => by simp] at hx
    clear hb
    have hW1 := Lib.hid (hW.out.next hb1)
    replace hn := Lib.hid hn
    replace hx := Lib.hid hx
    go_wp2_with fail
    go_loopg [] f (fun kq wr => ∃ (q plx k : Nat) (vi : Value), Hid (wr.heap[w.heap.size]? = some (.cells #[.int .i64 4, .int .i64 (P : Int), .bool false, .string ⟨#[]⟩, vi, .slice none 0 0, .slice none 0 0] 33 (0, 0))) ∧ Hid (wr.heap[w.heap.size + 1]? = some (.cells #[.int .i64 0, .int .i64 0, .bool false, .string ⟨#[]⟩, .slice none 0 0, .slice none 0 0, .slice none 0 0] 33 (0, 0))) ∧ Hid (RdB s v q plx k b wr) ∧ Hid (w.grownBy wr (some b)) ∧ Hid (q ≤ ts.length ∧ kq ≤ f) ∧ ((k = 0 ∧ Hid (plx = pl ∧ ∃ cs : List RKid, wr.ownsRow (w.heap.size + 2) 33 7 vi cs.length (cs.flatMap RKid.u) ∧ RKids (w.heap.size + 2) wr [vi.ownBlock] cs ∧ cs.length ≤ q ∧ comb (cs.map RKid.x) (pI s ts kq deep q) = r)) ∨ (k ≠ 0 ∧ Hid (isSl vi ∧ r = .err k plx))))
    case atStart => exact ⟨p, pl, 0, _, hn, hx, Lib.hid hW1.out.rd, Lib.hid (grown_of_below hb1), Lib.hid ⟨hple, Nat.le_refl _⟩, Or.inl ⟨rfl, Lib.hid ⟨rfl, [], World.ownsRow_nil _ _ _ _, RKids.nil _ _ _, Nat.zero_le _, by rw [hr1.out]; exact comb_nil _⟩⟩⟩
    case round =>
      obtain ⟨q, plx, k, vi, hn, hx, hrd, hg, hq, hm⟩ := hrel
      clear N hW1 hK1 hK2 hb1
      have x4 := hrd.out.c4
      have hbr : b < wr.heap.size := ltB hrd.out
      have hn0 := ltB hn.out
      have hx0 := ltB hx.out
      have hz1 : b ≠ w.heap.size := by omega
      have hz2 : b ≠ w.heap.size + 1 := by omega
      have hz3 : w.heap.size ≠ w.heap.size + 1 := by omega
      have hz4 : w.heap.size + 1 ≠ w.heap.size := by omega
      rcases hm with ⟨rfl, hm⟩ | ⟨hk0, hm⟩
      · have hpo := Lib.hid (hW.out.step hg.out hrd.out hq.out.1)
        obtain ⟨rfl, cs, hrow, hkids, hcl, hgo⟩ := hm.out
        cases gk with
        | zero => exact absurd (hgo.symm.trans (by rw [pI]; rfl)) hout.out
        | succ f1 =>
          rw [pI] at hgo
          have hVf := hV.out f1 (by have := hq.out.2; omega)
          have hnv : pV s ts f1 (deep + 1) q ≠ .out := by
            intro h
            rw [h] at hgo
            exact hout.out hgo.symm
          have V := Lib.hid (hVf (deep + 1) q plx b wr hnv (by omega) hpo.out)
          have hd1 : ((deep + 1 : Nat) : Int) = (deep : Int) + 1 := by omega
          rw [hd1] at V
          have fit := (p_goes s ts f1).1 (deep + 1) q
          generalize hR : pV s ts f1 (deep + 1) q = R at *
          replace hR := Lib.hid hR
          replace hrow := Lib.hid hrow
          replace hkids := Lib.hid hkids
          replace hm := Lib.hid hm
          cases R with
          | out => exact absurd rfl hnv
          | err k pl2 =>
            replace hgo := Lib.hid hgo
            go_wp2_with fail
            refine V.out.mono ?_
            rintro e w3 ⟨hg3, m3, p3, f3, t3, vi3, vk3, vp3, q3, rfl, ⟨⟨a1, n1, c1, rfl⟩, ⟨a2, n2, c2, rfl⟩, ⟨a3, n3, c3, rfl⟩⟩, hq3, hrd3⟩
            have hn3 := (hg3.block _ hn0 (by intro e; cases e; exact hz1 rfl)).trans hn.out
            have hx3 := (hg3.block _ hx0 (by intro e; cases e; exact hz2 rfl)).trans hx.out
            have hrow3 := Lib.hid (ownsRow_heap hrow.out fun k e => hg3.block k (hrow.out.lt k e).2 (by intro e2; cases e2; have := (hrow.out.lt b e).1; omega))
            obtain ⟨av, nv, cv, rfl⟩ := ownsRow_sl hrow.out
            have hz5 := hg3.size
            have hg4 := Lib.hid (grown_trans hg.out hg3)
            clear hg3 x4
            have zc0 := cellB hn3 0 rfl
            have zc1 := cellB hn3 1 rfl
            have zc2 := cellB hn3 2 rfl
            have zc3 := cellB hn3 3 rfl
            have zc4 := cellB hn3 4 rfl
            have zc5 := cellB hn3 5 rfl
            have zc6 := cellB hn3 6 rfl
            have zf0 := freeB hn3 0
            have zf1 := freeB hn3 1
            have zf2 := freeB hn3 2
            have zf3 := freeB hn3 3
            have zf4 := freeB hn3 4
            have zf5 := freeB hn3 5
            have zf6 := freeB hn3 6
            have hbr3 : b < w3.heap.size := ltB hrd3
            have hn03 := ltB hn3
            replace hn3 := Lib.hid hn3
            replace hx3 := Lib.hid hx3
            replace hrd3 := Lib.hid hrd3
            rw [rdC_arr]
            have hcl' : cs.length + 1 ≤ 2097152 := by have := hq.out.1; omega
            have hone := rdC_one (n := m3) (p := p3) (f := f3) (t := t3) ⟨a1, n1, c1, rfl⟩ ⟨a2, n2, c2, rfl⟩ ⟨a3, n3, c3, rfl⟩
            replace hone := Lib.hid hone
            go_wp2_with (at_builtin; refine app_row rfl _ _ 29 33 7 112 _ infoRd rfl (by decide) (by decide) Tryz.underlying29 rfl (w.heap.size + 2) (.slice av nv cv) cs.length (cs.flatMap RKid.u) rfl ?c1 (w3.heap.size + 1) 1 (rdC m3 p3 f3 t3 (.slice a1 n1 c1) (.slice a2 n2 c2) (.slice a3 n3 c3)) _ 33 rfl ?c2 rfl rfl hcl' ?c4 hone.out ?_)
            case c1 => exact (hrow3.out.alloc _).alloc _
            case c2 =>
              have h := heap_alloc_new (w3.alloc (.cells #[.int .i64 (m3 : Int), .int .i64 (p3 : Int), .bool f3, .string t3, .slice a1 n1 c1, .slice a2 n2 c2, .slice a3 n3 c3] 33 (0, 0))) (.cells #[.int .i64 (m3 : Int), .int .i64 (p3 : Int), .bool f3, .string t3, .slice a1 n1 c1, .slice a2 n2 c2, .slice a3 n3 c3] 33 (0, 0))
              rw [show ∀ o, (w3.alloc o).heap.size = w3.heap.size + 1 from fun o => by simp] at h
              exact h
            case c4 => simp; omega
            intro v' w4 hrow4 hg5 hown5
            have hk3 : ¬ (k : Int) = 0 := by have : k = 2 ∨ k = 3 ∨ k = 6 := fit; omega
            have hk4 : ((k : Int) == 0) = false := by simpa using hk3
            have hlo : ∀ j, (Value.slice av nv cv).ownBlock = some j → w.heap.size + 2 ≤ j := fun j e => (hrow3.out.lt j e).1
            have hn4 := (hg5.block w.heap.size (by simp; omega) (fun e => by have := hlo _ e.symm; omega)).trans (box_next (box_next hn3.out (balloc (Below.refl _ _))) (balloc (Below.refl _ _)))
            have hx4 := Lib.hid ((hg5.block (w.heap.size + 1) (by simp; omega) (fun e => by have := hlo _ e.symm; omega)).trans (box_next (box_next hx3.out (balloc (Below.refl _ _))) (balloc (Below.refl _ _))))
            have hrd4 := (hg5.block b (by simp; omega) (fun e => by have := hlo _ e.symm; omega)).trans (box_next (box_next hrd3.out (balloc (Below.refl _ _))) (balloc (Below.refl _ _)))
            have hrd4 : RdB s v q3 pl2 k b w4 := hrd4
            obtain ⟨av', nv', cv', rfl⟩ := ownsRow_sl hrow4
            have x4 := hrd4.c4
            clear zc0 zc1 zc2 zc3 zc4 zc5 zc6 zf0 zf1 zf2 zf3 zf4 zf5 zf6
            have z4 := cellB hn4 4 rfl
            have zf4 := freeB hn4 4
            have hn04 := ltB hn4
            have hbr4 := ltB hrd4
            replace hn4 := Lib.hid hn4
            replace hrd4 := Lib.hid hrd4
            replace hg5 := Lib.hid hg5
            go_wp2_with fail
            have hg6 := (grown_own (grown_trans hg4.out (grown_of_below (r := some b) (balloc (balloc (Below.refl _ _))))) hg5.out (fun j e => by have := hlo j e; omega)).setNew (Nat.le_refl _) 4 (.slice av' nv' cv')
            have hrd5 : RdB s v q3 pl2 k b _ := other (i := 4) (u := .slice av' nv' cv') hrd4.out hz1
            have hn5 := set1 (i := 4) hn4.out (.slice av' nv' cv') rfl
            have hx5 := other (i := 4) (u := .slice av' nv' cv') hx4.out hz4
            have hW5 := hW.out.step hg6 hrd5 hq3
            refine (want_old s q3 pl2 k b 11 _ hW5 (by omega)).mono ?_
            rintro e w6 ⟨rfl, hb⟩
            have hn6 := Lib.hid (box_next hn5 hb)
            have hx6 := Lib.hid (box_next hx5 hb)
            have hrd6 := Lib.hid (hrd5.next hb)
            have hg7 := Lib.hid (grown_belowR hg6 hb)
            clear hb hn5 hx5 hrd5 hg6 hW5 x4 z4 zf4
            go_wp2_with fail
            go_roundg f1
            case measure => omega
            case rel => exact ⟨q3, pl2, k, _, hn6, hx6, hrd6, hg7, Lib.hid ⟨hq3, by have := hq.out.2; omega⟩, Or.inr ⟨by omega, Lib.hid ⟨⟨_, _, _, rfl⟩, by rw [← hgo.out]; rfl⟩⟩⟩
          | ok x q1 =>
            replace hgo := Lib.hid hgo
            go_wp2_with fail
            refine V.out.mono ?_
            rintro e w3 ⟨hg3, u, rfl, hN, hrd3⟩
            obtain ⟨m3, p3, f3, t3, vi3, vk3, vp3, rfl, ⟨a1, n1, c1, rfl⟩, ⟨a2, n2, c2, rfl⟩, ⟨a3, n3, c3, rfl⟩⟩ := hN.form
            have hfit : q < q1 ∧ q1 ≤ ts.length := fit
            have hq3 := hfit.2
            have hNo := Lib.hid hN
            have hg3o := Lib.hid hg3
            have hx00 : w.heap.size + 2 ≤ wr.heap.size := hx0
            have hlv : ∀ j, vi.ownBlock = some j → j < wr.heap.size := fun j e => (hrow.out.lt j e).2
            have hn3 := (hg3.block _ hn0 (by intro e; cases e; exact hz1 rfl)).trans hn.out
            have hx3 := (hg3.block _ hx0 (by intro e; cases e; exact hz2 rfl)).trans hx.out
            have hrow3 := Lib.hid (ownsRow_heap hrow.out fun k e => hg3.block k (hrow.out.lt k e).2 (by intro e2; cases e2; have := (hrow.out.lt b e).1; omega))
            obtain ⟨av, nv, cv, rfl⟩ := ownsRow_sl hrow.out
            have hz5 := hg3.size
            have hg4 := Lib.hid (grown_trans hg.out hg3)
            clear hg3 x4
            have zc0 := cellB hn3 0 rfl
            have zc1 := cellB hn3 1 rfl
            have zc2 := cellB hn3 2 rfl
            have zc3 := cellB hn3 3 rfl
            have zc4 := cellB hn3 4 rfl
            have zc5 := cellB hn3 5 rfl
            have zc6 := cellB hn3 6 rfl
            have zf0 := freeB hn3 0
            have zf1 := freeB hn3 1
            have zf2 := freeB hn3 2
            have zf3 := freeB hn3 3
            have zf4 := freeB hn3 4
            have zf5 := freeB hn3 5
            have zf6 := freeB hn3 6
            have hbr3 : b < w3.heap.size := ltB hrd3
            have hn03 := ltB hn3
            replace hn3 := Lib.hid hn3
            replace hx3 := Lib.hid hx3
            replace hrd3 := Lib.hid hrd3
            rw [rdC_arr]
            have hcl' : cs.length + 1 ≤ 2097152 := by have := hq.out.1; omega
            have hone := rdC_one (n := m3) (p := p3) (f := f3) (t := t3) ⟨a1, n1, c1, rfl⟩ ⟨a2, n2, c2, rfl⟩ ⟨a3, n3, c3, rfl⟩
            replace hone := Lib.hid hone
            go_wp2_with (at_builtin; refine app_row rfl _ _ 29 33 7 112 _ infoRd rfl (by decide) (by decide) Tryz.underlying29 rfl (w.heap.size + 2) (.slice av nv cv) cs.length (cs.flatMap RKid.u) rfl ?c1 (w3.heap.size + 1) 1 (rdC m3 p3 f3 t3 (.slice a1 n1 c1) (.slice a2 n2 c2) (.slice a3 n3 c3)) _ 33 rfl ?c2 rfl rfl hcl' ?c4 hone.out ?_)
            case c1 => exact (hrow3.out.alloc _).alloc _
            case c2 =>
              have h := heap_alloc_new (w3.alloc (.cells #[.int .i64 (m3 : Int), .int .i64 (p3 : Int), .bool f3, .string t3, .slice a1 n1 c1, .slice a2 n2 c2, .slice a3 n3 c3] 33 (0, 0))) (.cells #[.int .i64 (m3 : Int), .int .i64 (p3 : Int), .bool f3, .string t3, .slice a1 n1 c1, .slice a2 n2 c2, .slice a3 n3 c3] 33 (0, 0))
              rw [show ∀ o, (w3.alloc o).heap.size = w3.heap.size + 1 from fun o => by simp] at h
              exact h
            case c4 => simp; omega
            intro v' w4 hrow4 hg5 hown5
            have hlo : ∀ j, (Value.slice av nv cv).ownBlock = some j → w.heap.size + 2 ≤ j := fun j e => (hrow3.out.lt j e).1
            have hn4 := (hg5.block w.heap.size (by simp; omega) (fun e => by have := hlo _ e.symm; omega)).trans (box_next (box_next hn3.out (balloc (Below.refl _ _))) (balloc (Below.refl _ _)))
            have hx4 := Lib.hid ((hg5.block (w.heap.size + 1) (by simp; omega) (fun e => by have := hlo _ e.symm; omega)).trans (box_next (box_next hx3.out (balloc (Below.refl _ _))) (balloc (Below.refl _ _))))
            have hrd4 := (hg5.block b (by simp; omega) (fun e => by have := hlo _ e.symm; omega)).trans (box_next (box_next hrd3.out (balloc (Below.refl _ _))) (balloc (Below.refl _ _)))
            have hrd4 : RdB s v q1 plx 0 b w4 := hrd4
            obtain ⟨av', nv', cv', rfl⟩ := ownsRow_sl hrow4
            have x4 := hrd4.c4
            clear zc0 zc1 zc2 zc3 zc4 zc5 zc6 zf0 zf1 zf2 zf3 zf4 zf5 zf6
            have z4 := cellB hn4 4 rfl
            have zf4 := freeB hn4 4
            have hn04 := ltB hn4
            have hbr4 := ltB hrd4
            replace hn4 := Lib.hid hn4
            replace hrd4 := Lib.hid hrd4
            replace hg5 := Lib.hid hg5
            go_wp2_with fail
            have hg6 := (grown_own (grown_trans hg4.out (grown_of_below (r := some b) (balloc (balloc (Below.refl _ _))))) hg5.out (fun j e => by have := hlo j e; omega)).setNew (Nat.le_refl _) 4 (.slice av' nv' cv')
            have hrd5 : RdB s v q1 plx 0 b _ := other (i := 4) (u := .slice av' nv' cv') hrd4.out hz1
            have hn5 := set1 (i := 4) hn4.out (.slice av' nv' cv') rfl
            have hx5 := other (i := 4) (u := .slice av' nv' cv') hx4.out hz4
            have hW5 := hW.out.step hg6 hrd5 hq3
            have hk3 := (hkids.out.grow (os' := [(Value.slice av nv cv).ownBlock]) hg3o.out (Or.inl fun j e => by cases e; omega) (fun o ho => Or.inl ho)).add (c := ⟨noS, 0, wr.heap.size, w3.heap.size, _, x⟩) rfl rfl hNo.out hx00 hz5 (fun o ho j e => by rw [List.mem_singleton.1 ho] at e; exact hlv j e)
            have hk5 := (((hk3.below (balloc (balloc (Below.refl _ _)))).grow (os' := [(Value.slice av' nv' cv').ownBlock]) hg5.out (Or.inr (List.mem_singleton.2 rfl)) (fun o ho => by
              rw [List.mem_singleton.1 ho]
              rcases hown5 with h | h
              · exact Or.inl (by rw [h]; exact List.mem_singleton.2 rfl)
              · obtain ⟨g, h1, h2⟩ := h
                exact Or.inr ⟨g, h1, by simp; omega⟩)).grow (os' := [(Value.slice av' nv' cv').ownBlock]) (grown_set w4 w.heap.size 4 (.slice av' nv' cv')) (Or.inl fun j e => by cases e; omega) (fun o ho => Or.inl ho))
            have hrow5 := ownsRow_heap (w' := w4.setCell ⟨w.heap.size, 4, none⟩ (.slice av' nv' cv')) hrow4 fun j e => (grown_set w4 w.heap.size 4 (.slice av' nv' cv')).block j (hrow4.lt j e).2 (fun e2 => by cases e2; have := (hrow4.lt _ e).1; omega)
            have hfl : (cs.flatMap RKid.u ++ rdC m3 p3 f3 t3 (.slice a1 n1 c1) (.slice a2 n2 c2) (.slice a3 n3 c3)) = (cs ++ [(⟨noS, 0, wr.heap.size, w3.heap.size, rdC m3 p3 f3 t3 (.slice a1 n1 c1) (.slice a2 n2 c2) (.slice a3 n3 c3), x⟩ : RKid)]).flatMap RKid.u := by rw [List.flatMap_append, List.flatMap_cons, List.flatMap_nil, List.append_nil]
            have hcs : ∃ cs' : List RKid, cs'.map RKid.x = cs.map RKid.x ++ [x] ∧ cs'.length = cs.length + 1 ∧ (w4.setCell ⟨w.heap.size, 4, none⟩ (.slice av' nv' cv')).ownsRow (w.heap.size + 2) 33 7 (.slice av' nv' cv') cs'.length (cs'.flatMap RKid.u) ∧ RKids (w.heap.size + 2) (w4.setCell ⟨w.heap.size, 4, none⟩ (.slice av' nv' cv')) [(Value.slice av' nv' cv').ownBlock] cs' :=
              ⟨_, by rw [List.map_append]; rfl, by rw [List.length_append]; rfl, by rw [hfl] at hrow5; rw [List.length_append]; exact hrow5, hk5⟩
            clear hk3 hk5 hrow5 hfl hrow4 hown5
            obtain ⟨cs', hc1, hc2, hc3, hc4⟩ := hcs
            have hgo1 : comb (cs'.map RKid.x) (match rest s ts 9 q1 with | .ok true q' => .ok [] q' | .ok false q' => pI s ts f1 deep q' | .err k pl => .err k pl | .out => .out) = r := by
              rw [← hgo.out, hc1]
              show _ = comb (cs.map RKid.x) (match rest s ts 9 q1 with | .ok true q' => .ok [x] q' | .ok false q' => _ | .err k pl => .err k pl | .out => .out)
              cases rest s ts 9 q1 with
              | out => rfl
              | err k pl => rfl
              | ok t q' =>
                cases t with
                | true => show PR.ok (_ ++ [] : List Nd) q' = _; rw [List.append_nil]; rfl
                | false =>
                  show comb _ (pI s ts f1 deep q') = comb _ (match pI s ts f1 deep q' with | .ok xs q'' => .ok (x :: xs) q'' | .err k pl => .err k pl | .out => .out)
                  cases pI s ts f1 deep q' with
                  | out => rfl
                  | err k pl => rfl
                  | ok xs q'' => show PR.ok _ _ = PR.ok _ _; rw [List.append_assoc]; rfl
            unfold rest at hgo1
            have N := Lib.hid (fun w hW => peek_calls (base := base) (v := v) (ts := ts) s q1 plx 0 b w hW)
            generalize hw5 : w4.setCell ⟨w.heap.size, 4, none⟩ (.slice av' nv' cv') = w5 at hW5 hrd5 hn5 hx5 hg6 hc3 hc4 ⊢
            clear hw5 hrow3 hNo hg3o hkids hone hg4 hg5 hrd4 hx4 hn4 hx3 hn3 hrd3 x4 z4 zf4 hrow hm hN hR V hlv hlo
            by_cases k9 : kindT ts q1 = 9
            · rw [if_pos k9] at hgo1
              rw [k9] at N
              have hqb : (q1 : Int) + 1 ≤ 3518437208884 := by have := hW.out.hl; omega
              replace hgo1 := Lib.hid hgo1
              replace k9 := Lib.hid k9
              replace hW5 := Lib.hid hW5
              refine (N.out _ hW5.out).mono ?_
              rintro e w6 ⟨rfl, hb⟩
              have hn6 := box_next hn5 hb
              have hx6 := box_next hx5 hb
              have hrd6 := hrd5.next hb
              have hg7 := grown_belowR hg6 hb
              have hc5 := Lib.hid (row_below hc3 hb)
              have hc6 := Lib.hid (hc4.below hb)
              clear hb hn5 hx5 hrd5 hg6 hc3 hc4
              have x2 := hrd6.c2
              have f2 := freeB hrd6 2
              have hn06 := ltB hn6
              have hx06 := ltB hx6
              have hbr6 := ltB hrd6
              have zc0 := cellB hn6 0 rfl
              have zc1 := cellB hn6 1 rfl
              have zc2 := cellB hn6 2 rfl
              have zc3 := cellB hn6 3 rfl
              have zc4 := cellB hn6 4 rfl
              have zc5 := cellB hn6 5 rfl
              have zc6 := cellB hn6 6 rfl
              have zf0 := freeB hn6 0
              have zf1 := freeB hn6 1
              have zf2 := freeB hn6 2
              have zf3 := freeB hn6 3
              have zf4 := freeB hn6 4
              have zf5 := freeB hn6 5
              have zf6 := freeB hn6 6
              have yc0 := cellB hx6 0 rfl
              have yc1 := cellB hx6 1 rfl
              have yc2 := cellB hx6 2 rfl
              have yc3 := cellB hx6 3 rfl
              have yc4 := cellB hx6 4 rfl
              have yc5 := cellB hx6 5 rfl
              have yc6 := cellB hx6 6 rfl
              have yf0 := freeB hx6 0
              have yf1 := freeB hx6 1
              have yf2 := freeB hx6 2
              have yf3 := freeB hx6 3
              have yf4 := freeB hx6 4
              have yf5 := freeB hx6 5
              have yf6 := freeB hx6 6
              replace hrd6 := Lib.hid hrd6
              replace hg7 := Lib.hid hg7
              go_wp2_with fail
              have h1 := other (i := 2) (u := .int .i64 ((q1 : Int) + 1)) hx6 hz2.symm
              have h3 := RdB.set2 (q := q1 + 1) hrd6.out
              have h4 := grown_trans hg7.out (grown_set _ b 2 (.int .i64 ((q1 : Int) + 1)))
              obtain ⟨e1, e2, e3⟩ := rd_end h1 h4 h3 hz2 (Nat.le_succ _) (.int .i64 4) (.int .i64 (P : Int)) (.bool false) (.string ⟨#[]⟩) (.slice av' nv' cv') (.slice none 0 0) (.slice none 0 0)
              refine bodyPost_ret (results_cell_row rfl _ _ (w.heap.size + 1) 33 _ (0, 0) _ rfl e1 Tryz.underlying33 rfl info7) rfl ⟨e2, _, rfl, ?_⟩
              rw [← hgo1.out]
              exact ⟨cs', ownsRow_base (row_grown (row_grown hc5.out (grown_set _ b 2 _) (by omega)) (set7_grown _ _ _ _ _ _ _ _ _) (by omega)) (by omega), (((hc6.out.other (grown_set _ b 2 _) (by omega)).other (set7_grown _ _ _ _ _ _ _ _ _) (by omega)).base (by omega)), by rw [List.append_nil], e3⟩
            · rw [if_neg k9] at hgo1
              have hne5 : ((kindT ts q1 : Int) == 9) = false := by simp; omega
              have hne6 : ¬ (kindT ts q1 : Int) = 9 := by omega
              obtain ⟨K2, hK2⟩ : ∃ K2, K2 = kindT ts q1 := ⟨_, rfl⟩
              rw [← hK2] at hne5 hne6 N
              replace hK2 := Lib.hid hK2
              refine (N.out _ hW5).mono ?_
              rintro e w6 ⟨rfl, hb⟩
              have hn6 := Lib.hid (box_next hn5 hb)
              have hx6 := Lib.hid (box_next hx5 hb)
              have hW6 := Lib.hid (hW5.next hb)
              have hg7 := Lib.hid (grown_belowR hg6 hb)
              have hc5 := Lib.hid (row_below hc3 hb)
              have hc6 := Lib.hid (hc4.below hb)
              clear hb hn5 hx5 hrd5 hg6 hc3 hc4 hW5
              by_cases k11 : kindT ts q1 = 11
              · rw [if_pos k11] at hgo1
                have hqt := kindT_lt (ts := ts) (p := q1) (by omega)
                replace hgo1 := Lib.hid hgo1
                replace k11 := Lib.hid k11
                go_wp2_with fail
                refine (want_ok s q1 plx b 11 _ hW6.out k11.out (by decide)).mono ?_
                rintro e w7 ⟨rfl, hW7, hg8⟩
                have hn7 := Lib.hid ((hg8.block _ (ltB hn6.out) (by intro e; cases e; exact hz1 rfl)).trans hn6.out)
                have hx7 := Lib.hid ((hg8.block _ (ltB hx6.out) (by intro e; cases e; exact hz2 rfl)).trans hx6.out)
                have hrd7 := Lib.hid hW7.rd
                have hg9 := Lib.hid (grown_trans hg7.out hg8)
                have hc7 := Lib.hid (row_grown hc5.out hg8 (by omega))
                have hc8 := Lib.hid (hc6.out.other hg8 (by omega))
                clear hW7 hg8 hn6 hx6 hW6 hg7 hc5 hc6
                go_wp2_with fail
                go_roundg f1
                case measure => omega
                case rel => exact ⟨q1 + 1, plx, 0, _, hn7, hx7, hrd7, hg9, Lib.hid ⟨by omega, by have := hq.out.2; omega⟩, Or.inl ⟨rfl, Lib.hid ⟨rfl, cs', hc7.out, hc8.out, by omega, hgo1.out⟩⟩⟩
              · rw [if_neg k11] at hgo1
                replace hgo1 := Lib.hid hgo1
                replace k11 := Lib.hid k11
                go_wp2_with fail
                refine (want_bad s q1 plx b 11 _ hW6.out k11.out).mono ?_
                rintro e w7 ⟨rfl, hW7, hg8⟩
                have hn7 := Lib.hid ((hg8.block _ (ltB hn6.out) (by intro e; cases e; exact hz1 rfl)).trans hn6.out)
                have hx7 := Lib.hid ((hg8.block _ (ltB hx6.out) (by intro e; cases e; exact hz2 rfl)).trans hx6.out)
                have hrd7 := Lib.hid hW7.rd
                have hg9 := Lib.hid (grown_trans hg7.out hg8)
                clear hW7 hg8 hn6 hx6 hW6 hg7 hc5 hc6
                go_wp2_with fail
                go_roundg f1
                case measure => omega
                case rel => exact ⟨q1, placeT s ts q1, 2, _, hn7, hx7, hrd7, hg9, Lib.hid ⟨hq3, by have := hq.out.2; omega⟩, Or.inr ⟨by decide, Lib.hid ⟨⟨_, _, _, rfl⟩, by rw [← hgo1.out]; rfl⟩⟩⟩
      · have hk1 : ((k : Int) == 0) = false := by simp; omega
        have hk2 : ¬ (k : Int) = 0 := by omega
        obtain ⟨⟨a1, n1, c1, rfl⟩, hre⟩ := hm.out
        replace hre := Lib.hid hre
        clear hm
        have zc0 := cellB hn.out 0 rfl
        have zc1 := cellB hn.out 1 rfl
        have zc2 := cellB hn.out 2 rfl
        have zc3 := cellB hn.out 3 rfl
        have zc4 := cellB hn.out 4 rfl
        have zc5 := cellB hn.out 5 rfl
        have zc6 := cellB hn.out 6 rfl
        have zf0 := freeB hn.out 0
        have zf1 := freeB hn.out 1
        have zf2 := freeB hn.out 2
        have zf3 := freeB hn.out 3
        have zf4 := freeB hn.out 4
        have zf5 := freeB hn.out 5
        have zf6 := freeB hn.out 6
        have yc0 := cellB hx.out 0 rfl
        have yc1 := cellB hx.out 1 rfl
        have yc2 := cellB hx.out 2 rfl
        have yc3 := cellB hx.out 3 rfl
        have yc4 := cellB hx.out 4 rfl
        have yc5 := cellB hx.out 5 rfl
        have yc6 := cellB hx.out 6 rfl
        have yf0 := freeB hx.out 0
        have yf1 := freeB hx.out 1
        have yf2 := freeB hx.out 2
        have yf3 := freeB hx.out 3
        have yf4 := freeB hx.out 4
        have yf5 := freeB hx.out 5
        have yf6 := freeB hx.out 6
        go_wp2_with fail
        obtain ⟨e1, e2, e3⟩ := rd_end hx.out hg.out hrd.out hz2 (Nat.le_succ _) (.int .i64 4) (.int .i64 (P : Int)) (.bool false) (.string ⟨#[]⟩) (.slice a1 n1 c1) (.slice none 0 0) (.slice none 0 0)
        refine bodyPost_ret (results_cell_row rfl _ _ (w.heap.size + 1) 33 _ (0, 0) _ rfl e1 Tryz.underlying33 rfl info7) rfl ⟨e2, _, rfl, ?_⟩
        rw [hre.out]
        exact ⟨⟨_, _, _, rfl⟩, q, hq.out.1, e3⟩

end Go.Proofs.YtibopkodoidjoaaGreatDoor

/- The reference's tree: want and value, whatever the fault. -/
namespace Go.Proofs.YtibopkodoidjoaaGreatDoor
open Go Go.RowKit

/-- want, whatever the fault. -/
theorem want_u {base : Nat} {v : Value} {ts : List Tk} (s : ByteArray) (p pl k b K : Nat) (w : World) (hW : RdW base s v ts p pl k b w) (hK : K ≠ 0) :
    Calls Tryz.prog 84 #[.pointer (some ⟨b, 0, none⟩), .int .i64 (K : Int)] w fun e w' => e = .returned (.tuple #[]) ∧ w.grownBy w' (some b) ∧
      ∃ q pl' k', RdW base s v ts q pl' k' b w' ∧ ((k ≠ 0 ∧ q = p ∧ pl' = pl ∧ k' = k) ∨ (k = 0 ∧ kindT ts p = K ∧ q = p + 1 ∧ pl' = pl ∧ k' = 0) ∨ (k = 0 ∧ kindT ts p ≠ K ∧ q = p ∧ pl' = placeT s ts p ∧ k' = 2)) := by
  by_cases h0 : k = 0
  · subst h0
    by_cases hk : kindT ts p = K
    · refine (want_ok s p pl b K w hW hk hK).mono ?_
      rintro e w' ⟨rfl, h1, h2⟩
      exact ⟨rfl, h2, _, _, _, h1, Or.inr (Or.inl ⟨rfl, hk, rfl, rfl, rfl⟩)⟩
    · refine (want_bad s p pl b K w hW hk).mono ?_
      rintro e w' ⟨rfl, h1, h2⟩
      exact ⟨rfl, h2, _, _, _, h1, Or.inr (Or.inr ⟨rfl, hk, rfl, rfl, rfl⟩)⟩
  · refine (want_old s p pl k b K w hW h0).mono ?_
    rintro e w' ⟨rfl, hb⟩
    exact ⟨rfl, grown_of_below hb, _, _, _, hW.next hb, Or.inl ⟨h0, rfl, rfl, rfl⟩⟩
/-- What value answers, whatever the fault. -/
def PostU (s : ByteArray) (v : Value) (n pl k b : Nat) (w : World) (r : PR Nd) (e : Ending) (w' : World) : Prop :=
  w.grownBy w' (some b) ∧ ∃ (m pn : Nat) (f : Bool) (t : ByteArray) (vi vk vp : Value) (q pl' k' : Nat), e = .returned (.agg (rdC m pn f t vi vk vp).toArray) ∧ (isSl vi ∧ isSl vk ∧ isSl vp) ∧ q ≤ n ∧ RdB s v q pl' k' b w' ∧
    ((k ≠ 0 ∧ pl' = pl ∧ k' = k) ∨ (k = 0 ∧ match r with
      | .ok x q0 => q = q0 ∧ pl' = pl ∧ k' = 0 ∧ OwnR w' w.heap.size w'.heap.size (rdC m pn f t vi vk vp) x
      | .err k2 pl2 => k' = k2 ∧ pl' = pl2
      | .out => True))
theorem value_u {base : Nat} {s : ByteArray} {v : Value} {ts : List Tk} {f : Nat} (hV : RVC base s v ts f) (deep p pl k b : Nat) (w : World) (hout : k = 0 → pV s ts f deep p ≠ .out) (hd : deep ≤ 64) (hW : RdW base s v ts p pl k b w) :
    Calls Tryz.prog 34 #[.pointer (some ⟨b, 0, none⟩), .int .i64 (deep : Int)] w (PostU s v ts.length pl k b w (pV s ts f deep p)) := by
  by_cases h0 : k = 0
  · subst h0
    have h1 := hout rfl
    have fit := (p_goes s ts f).1 deep p
    refine (hV deep p pl b w h1 hd hW).mono ?_
    generalize pV s ts f deep p = r at *
    rintro e w' ⟨hg, h2⟩
    cases r with
    | out => exact absurd rfl h1
    | ok x q =>
      obtain ⟨u, rfl, hN, hr⟩ := h2
      obtain ⟨m, pn, f1, t, vi, vk, vp, rfl, hs⟩ := hN.form
      exact ⟨hg, m, pn, f1, t, vi, vk, vp, q, pl, 0, rfl, hs, fit.2, hr, Or.inr ⟨rfl, rfl, rfl, rfl, hN⟩⟩
    | err k2 pl2 =>
      obtain ⟨m, pn, f1, t, vi, vk, vp, q, rfl, hs, hq, hr⟩ := h2
      exact ⟨hg, m, pn, f1, t, vi, vk, vp, q, pl2, k2, rfl, hs, hq, hr, Or.inr ⟨rfl, rfl, rfl⟩⟩
  · refine (rvalue_old s p pl k b _ w hW h0).mono ?_
    rintro e w' ⟨rfl, hb⟩
    exact ⟨grown_of_below hb, _, _, _, _, _, _, _, p, pl, k, rfl, ⟨⟨_, _, _, rfl⟩, ⟨_, _, _, rfl⟩, ⟨_, _, _, rfl⟩⟩, hW.hp, (hW.next hb).rd, Or.inl ⟨h0, rfl, rfl⟩⟩

end Go.Proofs.YtibopkodoidjoaaGreatDoor

/- A region that draws its order: a condition on the world that is asked till one operation has come up. -/
namespace Go.Proofs.YtibopkodoidjoaaGreatDoor
open Go Go.RowKit

section
variable {P : Program} {ops : Array Oper} {Q : Exit → Act → World → Prop} {md : Region.Mode} {L : Nat} {T : Bool → World → Prop}

/-- Whatever order is picked; T false holds till number L has come up, T true from there on. -/
def wpAnyL (P : Program) (md : Region.Mode) (ops : Array Oper) (Q : Exit → Act → World → Prop) (L : Nat) (T : Bool → World → Prop) : Nat → Array Bool → Act → World → Prop
  | 0, listed, a, w => Region.ready md ops listed = [] ∧ Q .normal a w
  | fuel + 1, listed, a, w =>
    (Region.ready md ops listed = [] → Q .normal a w) ∧
    ∀ i ∈ Region.ready md ops listed, wpOp P ops Q i (fun a' w' => T ((listed.setIfInBounds i true).getD L true) w' ∧ wpAnyL P md ops Q L T fuel (listed.setIfInBounds i true) a' w') a w
theorem wpAnyL_any : ∀ (fuel : Nat) (listed : Array Bool) (a : Act) (w : World), wpAnyL P md ops Q L T fuel listed a w → wpAny P md ops Q fuel listed a w
  | 0, _, _, _, h => h
  | fuel + 1, _, _, _, h => ⟨h.1, fun i hi => wpOp_mono (fun a' w' h' => wpAnyL_any fuel _ a' w' h'.2) (h.2 i hi)⟩
/-- An operation taken first; c: number L waits for it. -/
theorem wpAnyL_first {i : Nat} {oi : Oper} {v : Value} {U : World → Prop} (c : Bool) (hi : ops[i]? = some oi) (hsel : ∀ (j : Nat) (o : Oper) cs b, ops[j]? = some o → o.op ≠ .select cs b)
    (hQ : ∀ c a w, Q (.panic c) (a.put oi.dst v) w → Q (.panic c) a w) (hiL : i ≠ L)
    (hc : c = true → ∃ oL, ops[L]? = some oL ∧ ∃ e ∈ oL.after, Region.binds md e = true ∧ e.on = i) (hU0 : ∀ w, T false w → U w) (hU1 : c = false → ∀ w, T true w → U w) :
    ∀ (fuel : Nat) (listed : Array Bool) (a : Act) (w : World),
      (∀ j oj, ops[j]? = some oj → j ≠ i → listed.getD j true = false → (∀ e ∈ oj.after, Region.binds md e = true → e.on ≠ i) → oi.apart ops oj = true) →
      i ∈ Region.ready md ops listed → YieldsIf P ops U oi v a → (c = true → listed.getD L true = false) → T (listed.getD L true) w →
      wpAnyL P md ops Q L T fuel (listed.setIfInBounds i true) (a.put oi.dst v) w → wpAnyL P md ops Q L T (fuel + 1) listed a w := by
  have hUb : ∀ b w, (c = true → b = false) → T b w → U w := by
    intro b w h1 h2
    cases b with
    | false => exact hU0 w h2
    | true =>
      cases c with
      | false => exact hU1 rfl w h2
      | true => exact absurd (h1 rfl) (by simp)
  intro fuel
  induction fuel with
  | zero =>
    intro listed a w _ hr hy hl hS H
    refine ⟨fun h => (by rw [h] at hr; cases hr), fun j hj => ?_⟩
    by_cases hji : j = i
    · subst hji
      exact hy.wpOp hi (hUb _ _ hl hS) ⟨by rw [getD_set_ne true hiL]; exact hS, H⟩
    · have := ready_mono hj hji
      rw [H.1] at this
      cases this
  | succ fuel ih =>
    intro listed a w hfree hr hy hl hS H
    refine ⟨fun h => (by rw [h] at hr; cases hr), fun j hj => ?_⟩
    by_cases hji : j = i
    · subst hji
      exact hy.wpOp hi (hUb _ _ hl hS) ⟨by rw [getD_set_ne true hiL]; exact hS, H⟩
    · have h1 := H.2 j (ready_mono hj hji)
      obtain ⟨hjun, oj, hoj, hall⟩ := mem_ready.1 hj
      have hno : ∀ e, Region.binds md e = true → e ∈ oj.after → e.on ≠ i := fun e hb he heq => by
        have h1 := hall e he hb
        have h0 := (mem_ready.1 hr).1
        rw [heq] at h1
        rcases Nat.lt_or_ge i listed.size with h' | h'
        · simp [h'] at h0 h1; rw [h0] at h1; cases h1
        · simp [Array.getElem?_eq_none h'] at h1
      have h2 := wpOp_putIf hoj (hfree j oj hoj hji hjun fun e he hb => hno e hb he) (fun cs b => hsel i oi cs b hi) (fun cs b => hsel j oj cs b hoj) hQ hy h1
      have hfree' : ∀ k ok, ops[k]? = some ok → k ≠ i → (listed.setIfInBounds j true).getD k true = false →
          (∀ e ∈ ok.after, Region.binds md e = true → e.on ≠ i) → oi.apart ops ok = true := fun k ok hk hki hun hno => by
        refine hfree k ok hk hki ?_ hno
        by_cases hjk : j = k
        · subst hjk; exact hjun
        · rw [getD_set_ne true hjk] at hun; exact hun
      have hl' : c = true → (listed.setIfInBounds j true).getD L true = false := fun h => by
        by_cases hjL : j = L
        · exfalso
          obtain ⟨oL, h3, e, he, hb, h4⟩ := hc h
          rw [hjL, h3] at hoj
          cases hoj
          exact hno e hb he h4
        · rw [getD_set_ne true hjL]; exact hl h
      have hsw : ∀ x, ((listed.setIfInBounds i true).setIfInBounds j true).getD L x = (listed.setIfInBounds j true).getD L x := fun x => by
        rw [Array.setIfInBounds_comm _ _ (Ne.symm hji), getD_set_ne x hiL]
      refine wpOp_mono (fun a' w' h3 => ?_) h2
      have h4 : T ((listed.setIfInBounds j true).getD L true) w' := by rw [← hsw]; exact h3.2.1
      refine ⟨h4, ih (listed.setIfInBounds j true) a' w' hfree' (ready_mono hr (Ne.symm hji)) h3.1 hl' h4 ?_⟩
      rw [Array.setIfInBounds_comm _ _ hji]
      exact h3.2.2
/-- An operation that yields in whatever world. -/
theorem wpAnyL_take0 {i : Nat} {oi : Oper} {v : Value} {fuel : Nat} {listed : Array Bool} {a : Act} {w : World} (hi : ops[i]? = some oi) (hiL : i ≠ L)
    (hs : Region.noSelect ops = true) (hf : Region.free md ops listed i = true) (hr : (Region.ready md ops listed).contains i = true)
    (hQ : ∀ c a w, Q (.panic c) (a.put oi.dst v) w → Q (.panic c) a w) (hy : Yields P ops oi v a) (hS : T (listed.getD L true) w)
    (h : wpAnyL P md ops Q L T fuel (listed.setIfInBounds i true) (a.put oi.dst v) w) : wpAnyL P md ops Q L T (fuel + 1) listed a w :=
  wpAnyL_first (U := fun _ => True) false hi (Region.noSelect_spec hs) hQ hiL (fun h => by cases h) (fun _ _ => trivial) (fun _ _ _ => trivial) fuel listed a w (Region.free_spec hi hf) (by simpa using hr) hy.yieldsIf (fun h => by cases h) hS h
/-- A load for which number L waits. -/
theorem wpAnyL_take1 {i : Nat} {oi oL : Oper} {v : Value} {fuel : Nat} {listed : Array Bool} {a : Act} {w : World} (hi : ops[i]? = some oi) (hiL : i ≠ L) (hoL : ops[L]? = some oL) (hwt : (oL.after.any fun e => Region.binds md e && e.on == i) = true)
    (hs : Region.noSelect ops = true) (hf : Region.free md ops listed i = true) (hr : (Region.ready md ops listed).contains i = true)
    (hQ : ∀ c a w, Q (.panic c) (a.put oi.dst v) w → Q (.panic c) a w) (hl : listed.getD L true = false) (hy : YieldsIf P ops (T false) oi v a) (hS : T false w)
    (h : wpAnyL P md ops Q L T fuel (listed.setIfInBounds i true) (a.put oi.dst v) w) : wpAnyL P md ops Q L T (fuel + 1) listed a w :=
  wpAnyL_first (U := T false) true hi (Region.noSelect_spec hs) hQ hiL (fun _ => ⟨oL, hoL, by
    obtain ⟨k, hk, h1⟩ := Array.any_eq_true.1 hwt
    simp only [Bool.and_eq_true, beq_iff_eq] at h1
    exact ⟨_, Array.getElem_mem hk, h1.1, h1.2⟩⟩) (fun _ h => h) (fun h => by cases h) fuel listed a w (Region.free_spec hi hf) (by simpa using hr) hy (fun _ => hl) (by rw [hl]; exact hS) h
/-- A load whose cells stay. -/
theorem wpAnyL_take2 {i : Nat} {oi : Oper} {v : Value} {fuel : Nat} {listed : Array Bool} {a : Act} {w : World} (hi : ops[i]? = some oi) (hiL : i ≠ L)
    (hs : Region.noSelect ops = true) (hf : Region.free md ops listed i = true) (hr : (Region.ready md ops listed).contains i = true)
    (hQ : ∀ c a w, Q (.panic c) (a.put oi.dst v) w → Q (.panic c) a w) (hT : ∀ w, T false w → T true w) (hy : YieldsIf P ops (T true) oi v a) (hS : T (listed.getD L true) w)
    (h : wpAnyL P md ops Q L T fuel (listed.setIfInBounds i true) (a.put oi.dst v) w) : wpAnyL P md ops Q L T (fuel + 1) listed a w :=
  wpAnyL_first (U := T true) false hi (Region.noSelect_spec hs) hQ hiL (fun h => by cases h) hT (fun _ _ h => h) fuel listed a w (Region.free_spec hi hf) (by simpa using hr) hy (fun h => by cases h) hS h
def AllReadyL (P : Program) (md : Region.Mode) (ops : Array Oper) (Q : Exit → Act → World → Prop) (L : Nat) (T : Bool → World → Prop) (fuel : Nat) (listed : Array Bool) (a : Act) (w : World) (rs : List Nat) : Prop :=
  ∀ i ∈ rs, wpOp P ops Q i (fun a' w' => T ((listed.setIfInBounds i true).getD L true) w' ∧ wpAnyL P md ops Q L T fuel (listed.setIfInBounds i true) a' w') a w
theorem AllReadyL.nil {fuel : Nat} {listed : Array Bool} {a : Act} {w : World} : AllReadyL P md ops Q L T fuel listed a w [] := fun _ h => by cases h
theorem AllReadyL.cons {fuel : Nat} {listed : Array Bool} {a : Act} {w : World} {i : Nat} {o : Oper} {rs : List Nat} (ho : ops[i]? = some o)
    (h : ∀ K' : Act → World → Prop, Hid (∀ a w, T ((listed.setIfInBounds i true).getD L true) w → wpAnyL P md ops Q L T fuel (listed.setIfInBounds i true) a w → K' a w) → if Region.wanted o (yielded ops a.tmps) = true then Oper.wp P o a w K' Q else K' (a.put o.dst undef) w)
    (hs : AllReadyL P md ops Q L T fuel listed a w rs) : AllReadyL P md ops Q L T fuel listed a w (i :: rs) := fun j hj => by
  rcases List.mem_cons.1 hj with rfl | hj
  · exact wpOp_step ho (fun K' hK => h K' (Lib.hid fun a w hS hW => hK a w ⟨hS, hW⟩))
  · exact hs j hj
theorem wpAnyL_ready {rs : List Nat} {fuel : Nat} {listed : Array Bool} {a : Act} {w : World} (hr : Region.ready md ops listed = rs) (hne : rs ≠ [])
    (h : AllReadyL P md ops Q L T fuel listed a w rs) : wpAnyL P md ops Q L T (fuel + 1) listed a w :=
  ⟨fun h0 => absurd (hr ▸ h0) hne, hr ▸ h⟩
theorem wpAnyL_done {listed : Array Bool} {a : Act} {w : World} (hr : Region.ready md ops listed = []) (h : Q .normal a w) :
    ∀ fuel, wpAnyL P md ops Q L T fuel listed a w
  | 0 => ⟨hr, h⟩
  | _ + 1 => ⟨fun _ => h, by rw [hr]; simp⟩
theorem wp_region_L {id : Nat} {a : Act} {w : World} (L : Nat) (T : Bool → World → Prop) (hm : P.follows .mixedOrders = true)
    (h : wpAnyL P .any ops Q L T ops.size (Array.replicate ops.size false) a w.drew) : (Code.region id ops true).wp P Q a w :=
  wp_region_any hm (wpAnyL_any _ _ _ _ h)
end

end Go.Proofs.YtibopkodoidjoaaGreatDoor

/- Package tree: the set of keys, map[string]bool. -/
namespace Go.Proofs.YtibopkodoidjoaaGreatDoor
open Go Go.RowKit

theorem plainElem_bool_inv {H : Type} {P : Program} {e : TypeId} (he : P.underlying e = some .bool) {v : Value} {z : DataW H × List MemPlace} (h : plainElem P e v = some z) : ∃ x, v = .bool x ∧ z = (.lit (.bool x), []) := by
  unfold plainElem at h
  rw [he] at h
  cases v <;> simp at h
  exact ⟨_, rfl, h.symm⟩
/-- 'm[k]' at a map[string]bool that the call made. -/
theorem lookup_bool {H : Type} {P : Program} (w : World) {ops : Array Oper} {rest : List Oper} {o : Oper} {a : Act} {Q : Exit → Act → World → Prop}
    (hg : o.guard = none) (m x : Operand) (t : TypeId) (hop : o.op = Op.lookup t m x false)
    (k e : TypeId) (K : Go.Maps.Keyed P k) (ht : P.underlying t = some (.map k e)) (he : P.underlying e = some .bool) (hz : (zeroValue e).run P w = .ok (.bool false) w) (b n : Nat) (D : DataW H)
    (hm : a.eval m = .map (some b)) (hown : w.ownsMap P k (plainElem P e) b n D) (key : Value) (kl : Lit) (hx : a.eval x = key) (hkey : keyOf P k key = some kl) (c : Bool) (hat : D.atKey kl (.lit (.bool false)) = .lit (.bool c))
    (hK : wpList P ops Q rest (a.put o.dst (.bool c)) w) :
    wpList P ops Q (o :: rest) a w := by
  refine wpList_plain hg fun K' hK' => ?_
  obtain ⟨v, ps, hrun, hv⟩ := hown.lookup K ht hz (plainElem_bool he false) hkey
  obtain ⟨y, rfl, hy⟩ := plainElem_bool_inv he hv
  simp only [Prod.mk.injEq] at hy
  have : y = c := by have h := hat.symm.trans hy.1; cases h; rfl
  subst this
  unfold Oper.wp
  simp [execOp, hop, hm, hx, hrun, Result.andThen]
  exact hK' _ _ hK
def keyL (t : ByteArray) : Lit := .string t.data.toList
/-- The map holds just these keys. -/
structure SeenD (D : DataW Unit) (seen : List ByteArray) : Prop where
  isMap : Go.Maps.IsMap D
  at_ : ∀ t, D.atKey (keyL t) (.lit (.bool false)) = .lit (.bool (knows seen t))
theorem SeenD.nil : SeenD (.map []) [] := ⟨Go.Maps.isMap_empty, fun _ => rfl⟩
theorem keyL_inj {a b : ByteArray} (h : keyL a = keyL b) : a = b := by
  unfold keyL at h
  injection h with h
  rcases a with ⟨⟨a⟩⟩; rcases b with ⟨⟨b⟩⟩
  simp at h
  rw [h]
theorem knows_app (seen : List ByteArray) (t u : ByteArray) : knows (seen ++ [t]) u = (knows seen u || decide (t = u)) := by
  unfold knows
  rw [List.any_append]
  simp
theorem SeenD.put {D : DataW Unit} {seen : List ByteArray} (h : SeenD D seen) (t : ByteArray) : SeenD (D.put (keyL t) (.lit (.bool true))) (seen ++ [t]) := by
  refine ⟨?_, fun u => ?_⟩
  · exact h.isMap.put _ _
  · rw [knows_app]
    by_cases e : t = u
    · subst e
      rw [Go.Maps.atKey_put_same h.isMap (show WideAt.IsKeyLit (keyL t) from trivial)]
      simp
    · rw [Go.Maps.atKey_put_other (fun h => e (keyL_inj h).symm), h.at_ u]
      simp [e]

end Go.Proofs.YtibopkodoidjoaaGreatDoor
