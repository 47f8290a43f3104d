/- Ground words: errors that are package variables, the tables of unicode/utf8, what a call leaves as it was. -/
import Derived.Test.YtnldhgkmbighkaaDoorProg
import Derived.WalkKit
import Derived.WalkLawsBesides
import Derived.WalkSpells
import Derived.Below
import Derived.Lib.Hide
import Derived.Stop.IfaceNil
import Derived.LaidEql
import Derived.Deep.Draws
import Derived.Deep.QuietTactic
import Derived.BigQuiet
import Derived.Deep.DeepFit
import Derived.Outline
import Derived.Deep.RegionWith
import Derived.Deep.RegionHeld3
import Derived.LaidEqlPtr
import Derived.Shelf.Unicode.DecodeSlow
namespace Go.Proofs.YtnldhgkmbighkaaDoor
open Go Go.RowKit

/-- The package variables that hold errors, by the number of the document's table (and two of strconv). -/
def gErr : Nat → Nat
  | 1 => 1
  | 2 => 2
  | 3 => 3
  | 4 => 4
  | 5 => 5
  | 6 => 6
  | 7 => 7
  | 8 => 8
  | 9 => 9
  | 10 => 10
  | 11 => 11
  | 12 => 12
  | 13 => 13
  | 14 => 14
  | 15 => 15
  | 16 => 16
  | 17 => 17
  | 18 => 18
  | 19 => 19
  | 20 => 21
  | 21 => 20
  | _ => 0

theorem infoErrP : (Tryd.prog.info? 203).map (·.comparable) = some true := by kernel_rfl
theorem infoErrS : (Tryd.prog.info? 205).map (·.size) = some 1 := by kernel_rfl
@[go_sem] theorem eqErr_same (a : Addr) (w : World) : (binOp .eql 31 (.iface 203 (.pointer (some a))) (.iface 203 (.pointer (some a)))).run Tryd.prog w = .ok (.bool true) w := by
  obtain ⟨i, hi, hc⟩ := Option.map_eq_some_iff.1 infoErrP
  obtain ⟨j, hj, _⟩ := Option.map_eq_some_iff.1 infoErrS
  exact run_eql_iface_ptr_same w a Tryd.underlying31 Tryd.underlying203 hi hc hj
theorem eqErr_other {a b : Addr} {ca cb : Array Value} {ta tb : TypeId} (w : World) (hne : a ≠ b) (ha : w.heap[a.block]? = some (.cells ca ta (0, 0))) (hb : w.heap[b.block]? = some (.cells cb tb (0, 0))) :
    (binOp .eql 31 (.iface 203 (.pointer (some a))) (.iface 203 (.pointer (some b)))).run Tryd.prog w = .ok (.bool false) w := by
  obtain ⟨i, hi, hc⟩ := Option.map_eq_some_iff.1 infoErrP
  obtain ⟨j, hj, hs⟩ := Option.map_eq_some_iff.1 infoErrS
  exact run_eql_iface_ptr_other w Tryd.underlying31 Tryd.underlying203 hi hc hj (by omega) hne ha hb
/-- An error's number as a value: none is nil, k the k-th sentinel. -/
def errV (A : Nat → Addr) : Nat → Value
  | 0 => .nilIface
  | k + 1 => .iface 203 (.pointer (some (A (k + 1))))
theorem errV_zero (A : Nat → Addr) : errV A 0 = .nilIface := rfl
theorem errV_pos (A : Nat → Addr) {k : Nat} (h : 0 < k) : errV A k = .iface 203 (.pointer (some (A k))) := by
  cases k with
  | zero => omega
  | succ k => rfl

theorem below_drewN {B : Nat} {a w : World} (h : Below B a w) (n : Nat) : Below B a (w.drewN n) := ⟨h.os, h.tape, h.output, h.size, h.block⟩
theorem bcall {w W w1 : World} (h : Below w.heap.size w W) (k : Below W.heap.size W w1) : Below w.heap.size w w1 := h.trans (k.mono h.size)
theorem balloc {w W : World} {o : Obj} (h : Below w.heap.size w W) : Below w.heap.size w (W.alloc o) := h.alloc h.size o
theorem bcell {W w1 : World} (hb : Below W.heap.size W w1) : (∀ b o, b < W.heap.size → w1.cell? ⟨b, o, none⟩ = W.cell? ⟨b, o, none⟩) ∧ (∀ b o, b < W.heap.size → w1.frozen? ⟨b, o, none⟩ = W.frozen? ⟨b, o, none⟩) :=
  ⟨fun b o h => hb.cell (p := ⟨b, o, none⟩) h, fun b o h => hb.frozen (p := ⟨b, o, none⟩) h⟩
theorem ret_bool {a b : Bool} (h : a = b) : Ending.returned (.bool a) = .returned (.bool b) := by rw [h]
theorem ret_int {k : IntKind} {a b : Int} (h : a = b) : Ending.returned (.int k a) = .returned (.int k b) := by rw [h]
theorem ret_str {a b : ByteArray} (h : a = b) : Ending.returned (.string a) = .returned (.string b) := by rw [h]
theorem boxed {w W1 : World} {o : Obj} (hb : Below (w.alloc o).heap.size (w.alloc o) W1) : W1.heap[w.heap.size]? = some o := by
  rw [hb.block _ (by simp)]
  exact heap_alloc_new w o
theorem box_next {w W1 : World} {g : Nat} {o : Obj} (h : w.heap[g]? = some o) (hb : Below w.heap.size w W1) : W1.heap[g]? = some o := by
  rw [hb.block _ (by rcases Nat.lt_or_ge g w.heap.size with hlt | hge; exact hlt; rw [Array.getElem?_eq_none hge] at h; cases h)]
  exact h
theorem ltB {w : World} {g : Nat} {o : Obj} (h : w.heap[g]? = some o) : g < w.heap.size := by
  rcases Nat.lt_or_ge g w.heap.size with hlt | hge
  · exact hlt
  · rw [Array.getElem?_eq_none hge] at h; cases h
theorem cellB {w : World} {g : Nat} {cs : Array Value} {t : TypeId} {fr : Nat × Nat} (h : w.heap[g]? = some (.cells cs t fr)) (i : Nat) {v : Value} (e : cs[i]? = some v) : w.cell? ⟨g, i, none⟩ = some v := by
  simp [World.cell?, h, e]
theorem freeB {w : World} {g : Nat} {cs : Array Value} {t : TypeId} (h : w.heap[g]? = some (.cells cs t (0, 0))) (i : Nat) : w.frozen? ⟨g, i, none⟩ = false := by
  simp [World.frozen?, h]
/-- What the package variables hold; all of it lies below block B. -/
structure Env (A : Nat → Addr) (B : Nat) (S : List Nat) (w : World) : Prop where
  hB : B ≤ w.heap.size
  tabs : Lib.Utf8Tabs 22 23 w
  tb : 22 < B ∧ 23 < B
  err : ∀ k, k ∈ S → w.cell? ⟨gErr k, 0, none⟩ = some (errV A k)
  lt : ∀ k, k ∈ S → gErr k < B ∧ (A k).block < B
  blk : ∀ k, k ∈ S → ∃ cs t, w.heap[(A k).block]? = some (.cells cs t (0, 0))
  ne : ∀ j k, j ∈ S → k ∈ S → j ≠ k → A j ≠ A k

theorem Env.below {A : Nat → Addr} {B : Nat} {S : List Nat} {w w' : World} (h : Env A B S w) (hb : Below B w w') : Env A B S w' where
  hB := Nat.le_trans h.hB hb.size
  tabs := ⟨fun c hc => (hb.cell (p := ⟨_, c, none⟩) h.tb.1).trans (h.tabs.1 c hc), fun i hi => ⟨(hb.cell (p := ⟨_, _, none⟩) h.tb.2).trans (h.tabs.2 i hi).1, (hb.cell (p := ⟨_, _, none⟩) h.tb.2).trans (h.tabs.2 i hi).2⟩⟩
  tb := h.tb
  err := fun k hk => (hb.cell (p := ⟨_, _, none⟩) (h.lt k hk).1).trans (h.err k hk)
  lt := h.lt
  blk := fun k hk => by
    obtain ⟨cs, t, hs⟩ := h.blk k hk
    exact ⟨cs, t, (hb.block _ (h.lt k hk).2).trans hs⟩
  ne := h.ne
theorem Env.next {A : Nat → Addr} {B : Nat} {S : List Nat} {w w' : World} (h : Env A B S w) (hb : Below w.heap.size w w') : Env A B S w' := h.below (hb.mono h.hB)
theorem Env.sub {A : Nat → Addr} {B : Nat} {S S' : List Nat} {w : World} (h : Env A B S w) (hs : ∀ k ∈ S', k ∈ S) : Env A B S' w :=
  ⟨h.hB, h.tabs, h.tb, fun k hk => h.err k (hs k hk), fun k hk => h.lt k (hs k hk), fun k hk => h.blk k (hs k hk), fun j k hj hk => h.ne j k (hs j hj) (hs k hk)⟩

theorem Env.e1 {A : Nat → Addr} {B : Nat} {S : List Nat} {w : World} (h : Env A B S w) (hm : 1 ∈ S := by decide) : w.cell? ⟨1, 0, none⟩ = some (.iface 203 (.pointer (some (A 1)))) := h.err 1 hm
theorem Env.e2 {A : Nat → Addr} {B : Nat} {S : List Nat} {w : World} (h : Env A B S w) (hm : 2 ∈ S := by decide) : w.cell? ⟨2, 0, none⟩ = some (.iface 203 (.pointer (some (A 2)))) := h.err 2 hm
theorem Env.e3 {A : Nat → Addr} {B : Nat} {S : List Nat} {w : World} (h : Env A B S w) (hm : 3 ∈ S := by decide) : w.cell? ⟨3, 0, none⟩ = some (.iface 203 (.pointer (some (A 3)))) := h.err 3 hm
theorem Env.e4 {A : Nat → Addr} {B : Nat} {S : List Nat} {w : World} (h : Env A B S w) (hm : 4 ∈ S := by decide) : w.cell? ⟨4, 0, none⟩ = some (.iface 203 (.pointer (some (A 4)))) := h.err 4 hm
theorem Env.e5 {A : Nat → Addr} {B : Nat} {S : List Nat} {w : World} (h : Env A B S w) (hm : 5 ∈ S := by decide) : w.cell? ⟨5, 0, none⟩ = some (.iface 203 (.pointer (some (A 5)))) := h.err 5 hm
theorem Env.e6 {A : Nat → Addr} {B : Nat} {S : List Nat} {w : World} (h : Env A B S w) (hm : 6 ∈ S := by decide) : w.cell? ⟨6, 0, none⟩ = some (.iface 203 (.pointer (some (A 6)))) := h.err 6 hm
theorem Env.e7 {A : Nat → Addr} {B : Nat} {S : List Nat} {w : World} (h : Env A B S w) (hm : 7 ∈ S := by decide) : w.cell? ⟨7, 0, none⟩ = some (.iface 203 (.pointer (some (A 7)))) := h.err 7 hm
theorem Env.e8 {A : Nat → Addr} {B : Nat} {S : List Nat} {w : World} (h : Env A B S w) (hm : 8 ∈ S := by decide) : w.cell? ⟨8, 0, none⟩ = some (.iface 203 (.pointer (some (A 8)))) := h.err 8 hm
theorem Env.e9 {A : Nat → Addr} {B : Nat} {S : List Nat} {w : World} (h : Env A B S w) (hm : 9 ∈ S := by decide) : w.cell? ⟨9, 0, none⟩ = some (.iface 203 (.pointer (some (A 9)))) := h.err 9 hm
theorem Env.e10 {A : Nat → Addr} {B : Nat} {S : List Nat} {w : World} (h : Env A B S w) (hm : 10 ∈ S := by decide) : w.cell? ⟨10, 0, none⟩ = some (.iface 203 (.pointer (some (A 10)))) := h.err 10 hm
theorem Env.e11 {A : Nat → Addr} {B : Nat} {S : List Nat} {w : World} (h : Env A B S w) (hm : 11 ∈ S := by decide) : w.cell? ⟨11, 0, none⟩ = some (.iface 203 (.pointer (some (A 11)))) := h.err 11 hm
theorem Env.e12 {A : Nat → Addr} {B : Nat} {S : List Nat} {w : World} (h : Env A B S w) (hm : 12 ∈ S := by decide) : w.cell? ⟨12, 0, none⟩ = some (.iface 203 (.pointer (some (A 12)))) := h.err 12 hm
theorem Env.e13 {A : Nat → Addr} {B : Nat} {S : List Nat} {w : World} (h : Env A B S w) (hm : 13 ∈ S := by decide) : w.cell? ⟨13, 0, none⟩ = some (.iface 203 (.pointer (some (A 13)))) := h.err 13 hm
theorem Env.e14 {A : Nat → Addr} {B : Nat} {S : List Nat} {w : World} (h : Env A B S w) (hm : 14 ∈ S := by decide) : w.cell? ⟨14, 0, none⟩ = some (.iface 203 (.pointer (some (A 14)))) := h.err 14 hm
theorem Env.e15 {A : Nat → Addr} {B : Nat} {S : List Nat} {w : World} (h : Env A B S w) (hm : 15 ∈ S := by decide) : w.cell? ⟨15, 0, none⟩ = some (.iface 203 (.pointer (some (A 15)))) := h.err 15 hm
theorem Env.e16 {A : Nat → Addr} {B : Nat} {S : List Nat} {w : World} (h : Env A B S w) (hm : 16 ∈ S := by decide) : w.cell? ⟨16, 0, none⟩ = some (.iface 203 (.pointer (some (A 16)))) := h.err 16 hm
theorem Env.e17 {A : Nat → Addr} {B : Nat} {S : List Nat} {w : World} (h : Env A B S w) (hm : 17 ∈ S := by decide) : w.cell? ⟨17, 0, none⟩ = some (.iface 203 (.pointer (some (A 17)))) := h.err 17 hm
theorem Env.e18 {A : Nat → Addr} {B : Nat} {S : List Nat} {w : World} (h : Env A B S w) (hm : 18 ∈ S := by decide) : w.cell? ⟨18, 0, none⟩ = some (.iface 203 (.pointer (some (A 18)))) := h.err 18 hm
theorem Env.e19 {A : Nat → Addr} {B : Nat} {S : List Nat} {w : World} (h : Env A B S w) (hm : 19 ∈ S := by decide) : w.cell? ⟨19, 0, none⟩ = some (.iface 203 (.pointer (some (A 19)))) := h.err 19 hm
theorem Env.e20 {A : Nat → Addr} {B : Nat} {S : List Nat} {w : World} (h : Env A B S w) (hm : 20 ∈ S := by decide) : w.cell? ⟨21, 0, none⟩ = some (.iface 203 (.pointer (some (A 20)))) := h.err 20 hm
theorem Env.e21 {A : Nat → Addr} {B : Nat} {S : List Nat} {w : World} (h : Env A B S w) (hm : 21 ∈ S := by decide) : w.cell? ⟨20, 0, none⟩ = some (.iface 203 (.pointer (some (A 21)))) := h.err 21 hm
theorem Env.l1 {A : Nat → Addr} {B : Nat} {S : List Nat} {w : World} (h : Env A B S w) (hm : 1 ∈ S := by decide) : 1 < w.heap.size := Nat.lt_of_lt_of_le (h.lt 1 hm).1 h.hB
theorem Env.l2 {A : Nat → Addr} {B : Nat} {S : List Nat} {w : World} (h : Env A B S w) (hm : 2 ∈ S := by decide) : 2 < w.heap.size := Nat.lt_of_lt_of_le (h.lt 2 hm).1 h.hB
theorem Env.l3 {A : Nat → Addr} {B : Nat} {S : List Nat} {w : World} (h : Env A B S w) (hm : 3 ∈ S := by decide) : 3 < w.heap.size := Nat.lt_of_lt_of_le (h.lt 3 hm).1 h.hB
theorem Env.l4 {A : Nat → Addr} {B : Nat} {S : List Nat} {w : World} (h : Env A B S w) (hm : 4 ∈ S := by decide) : 4 < w.heap.size := Nat.lt_of_lt_of_le (h.lt 4 hm).1 h.hB
theorem Env.l5 {A : Nat → Addr} {B : Nat} {S : List Nat} {w : World} (h : Env A B S w) (hm : 5 ∈ S := by decide) : 5 < w.heap.size := Nat.lt_of_lt_of_le (h.lt 5 hm).1 h.hB
theorem Env.l6 {A : Nat → Addr} {B : Nat} {S : List Nat} {w : World} (h : Env A B S w) (hm : 6 ∈ S := by decide) : 6 < w.heap.size := Nat.lt_of_lt_of_le (h.lt 6 hm).1 h.hB
theorem Env.l7 {A : Nat → Addr} {B : Nat} {S : List Nat} {w : World} (h : Env A B S w) (hm : 7 ∈ S := by decide) : 7 < w.heap.size := Nat.lt_of_lt_of_le (h.lt 7 hm).1 h.hB
theorem Env.l8 {A : Nat → Addr} {B : Nat} {S : List Nat} {w : World} (h : Env A B S w) (hm : 8 ∈ S := by decide) : 8 < w.heap.size := Nat.lt_of_lt_of_le (h.lt 8 hm).1 h.hB
theorem Env.l9 {A : Nat → Addr} {B : Nat} {S : List Nat} {w : World} (h : Env A B S w) (hm : 9 ∈ S := by decide) : 9 < w.heap.size := Nat.lt_of_lt_of_le (h.lt 9 hm).1 h.hB
theorem Env.l10 {A : Nat → Addr} {B : Nat} {S : List Nat} {w : World} (h : Env A B S w) (hm : 10 ∈ S := by decide) : 10 < w.heap.size := Nat.lt_of_lt_of_le (h.lt 10 hm).1 h.hB
theorem Env.l11 {A : Nat → Addr} {B : Nat} {S : List Nat} {w : World} (h : Env A B S w) (hm : 11 ∈ S := by decide) : 11 < w.heap.size := Nat.lt_of_lt_of_le (h.lt 11 hm).1 h.hB
theorem Env.l12 {A : Nat → Addr} {B : Nat} {S : List Nat} {w : World} (h : Env A B S w) (hm : 12 ∈ S := by decide) : 12 < w.heap.size := Nat.lt_of_lt_of_le (h.lt 12 hm).1 h.hB
theorem Env.l13 {A : Nat → Addr} {B : Nat} {S : List Nat} {w : World} (h : Env A B S w) (hm : 13 ∈ S := by decide) : 13 < w.heap.size := Nat.lt_of_lt_of_le (h.lt 13 hm).1 h.hB
theorem Env.l14 {A : Nat → Addr} {B : Nat} {S : List Nat} {w : World} (h : Env A B S w) (hm : 14 ∈ S := by decide) : 14 < w.heap.size := Nat.lt_of_lt_of_le (h.lt 14 hm).1 h.hB
theorem Env.l15 {A : Nat → Addr} {B : Nat} {S : List Nat} {w : World} (h : Env A B S w) (hm : 15 ∈ S := by decide) : 15 < w.heap.size := Nat.lt_of_lt_of_le (h.lt 15 hm).1 h.hB
theorem Env.l16 {A : Nat → Addr} {B : Nat} {S : List Nat} {w : World} (h : Env A B S w) (hm : 16 ∈ S := by decide) : 16 < w.heap.size := Nat.lt_of_lt_of_le (h.lt 16 hm).1 h.hB
theorem Env.l17 {A : Nat → Addr} {B : Nat} {S : List Nat} {w : World} (h : Env A B S w) (hm : 17 ∈ S := by decide) : 17 < w.heap.size := Nat.lt_of_lt_of_le (h.lt 17 hm).1 h.hB
theorem Env.l18 {A : Nat → Addr} {B : Nat} {S : List Nat} {w : World} (h : Env A B S w) (hm : 18 ∈ S := by decide) : 18 < w.heap.size := Nat.lt_of_lt_of_le (h.lt 18 hm).1 h.hB
theorem Env.l19 {A : Nat → Addr} {B : Nat} {S : List Nat} {w : World} (h : Env A B S w) (hm : 19 ∈ S := by decide) : 19 < w.heap.size := Nat.lt_of_lt_of_le (h.lt 19 hm).1 h.hB
theorem Env.l20 {A : Nat → Addr} {B : Nat} {S : List Nat} {w : World} (h : Env A B S w) (hm : 20 ∈ S := by decide) : 21 < w.heap.size := Nat.lt_of_lt_of_le (h.lt 20 hm).1 h.hB
theorem Env.l21 {A : Nat → Addr} {B : Nat} {S : List Nat} {w : World} (h : Env A B S w) (hm : 21 ∈ S := by decide) : 20 < w.heap.size := Nat.lt_of_lt_of_le (h.lt 21 hm).1 h.hB


end Go.Proofs.YtnldhgkmbighkaaDoor
