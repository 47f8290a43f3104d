/- Lemmas of the proof, put together: Base, Law, Scalars, Ref1, Ref2, Ref3, Ref4. -/
import Derived.Test.YtibopkodoidjoaaGreatDoorProg
import Derived.WalkKit
import Derived.WalkLawsBesides
import Derived.WalkSpells
import Derived.Below
import Derived.Lib.Hide
import Derived.Stop.IfaceNil
import Derived.LaidEql
import Derived.Deep.Draws
import Derived.Deep.QuietTactic
import Derived.BigQuiet
import Derived.Deep.DeepFit
import Derived.Outline
import Derived.Deep.RegionWith
import Derived.Deep.RegionHeld3
import Derived.LaidEqlPtr
import Derived.Shelf.Unicode.DecodeSlow
import Derived.Test.YtibopkodoidjoaaGreatDoorShelf
import Derived.ProofKit
import Derived.OpenShut
import Derived.ChangeSame
import Derived.Carry
import Derived.LaidMore
import Derived.PinnedBridge
import Derived.LaidLaws
import Derived.Lib.LaidU8
import Derived.Lib.SmallJoins
import Derived.Deep.DeepHandedRow
import Derived.Deep.DeepWitnessRowRef
import Derived.Lib.DecodeN
import Derived.Laws.BytesArg
import Derived.Deep.LoopGhost
import Derived.OwnWalk
import Derived.Laws.AppendOwn

/- Ground words: errors that are package variables, the tables of unicode/utf8, what a call leaves as it was. -/
namespace Go.Proofs.YtibopkodoidjoaaGreatDoor
open Go Go.RowKit

/-- The package variables that hold errors, by the number of the document's table (and two of strconv). -/
def gErr : Nat → Nat
  | 1 => 3
  | 2 => 0
  | 3 => 1
  | 4 => 4
  | 5 => 6
  | 6 => 5
  | 7 => 8
  | 8 => 9
  | 9 => 10
  | 10 => 11
  | 11 => 12
  | 12 => 7
  | 13 => 13
  | 14 => 14
  | 15 => 15
  | 16 => 16
  | 17 => 17
  | 18 => 18
  | 19 => 19
  | 20 => 21
  | 21 => 20
  | _ => 0

theorem infoErrP : (Tryz.prog.info? 237).map (·.comparable) = some true := by kernel_rfl
theorem infoErrS : (Tryz.prog.info? 239).map (·.size) = some 1 := by kernel_rfl
@[go_sem] theorem eqErr_same (a : Addr) (w : World) : (binOp .eql 26 (.iface 237 (.pointer (some a))) (.iface 237 (.pointer (some a)))).run Tryz.prog w = .ok (.bool true) w := by
  obtain ⟨i, hi, hc⟩ := Option.map_eq_some_iff.1 infoErrP
  obtain ⟨j, hj, _⟩ := Option.map_eq_some_iff.1 infoErrS
  exact run_eql_iface_ptr_same w a Tryz.underlying26 Tryz.underlying237 hi hc hj
theorem eqErr_other {a b : Addr} {ca cb : Array Value} {ta tb : TypeId} (w : World) (hne : a ≠ b) (ha : w.heap[a.block]? = some (.cells ca ta (0, 0))) (hb : w.heap[b.block]? = some (.cells cb tb (0, 0))) :
    (binOp .eql 26 (.iface 237 (.pointer (some a))) (.iface 237 (.pointer (some b)))).run Tryz.prog w = .ok (.bool false) w := by
  obtain ⟨i, hi, hc⟩ := Option.map_eq_some_iff.1 infoErrP
  obtain ⟨j, hj, hs⟩ := Option.map_eq_some_iff.1 infoErrS
  exact run_eql_iface_ptr_other w Tryz.underlying26 Tryz.underlying237 hi hc hj (by omega) hne ha hb
/-- An error's number as a value: none is nil, k the k-th sentinel. -/
def errV (A : Nat → Addr) : Nat → Value
  | 0 => .nilIface
  | k + 1 => .iface 237 (.pointer (some (A (k + 1))))
theorem errV_pos (A : Nat → Addr) {k : Nat} (h : 0 < k) : errV A k = .iface 237 (.pointer (some (A k))) := by
  cases k with
  | zero => omega
  | succ k => rfl

theorem below_drewN {B : Nat} {a w : World} (h : Below B a w) (n : Nat) : Below B a (w.drewN n) := ⟨h.os, h.tape, h.output, h.size, h.block⟩
theorem bcall {w W w1 : World} (h : Below w.heap.size w W) (k : Below W.heap.size W w1) : Below w.heap.size w w1 := h.trans (k.mono h.size)
theorem balloc {w W : World} {o : Obj} (h : Below w.heap.size w W) : Below w.heap.size w (W.alloc o) := h.alloc h.size o
theorem ret_bool {a b : Bool} (h : a = b) : Ending.returned (.bool a) = .returned (.bool b) := by rw [h]
theorem ret_int {k : IntKind} {a b : Int} (h : a = b) : Ending.returned (.int k a) = .returned (.int k b) := by rw [h]
theorem ret_str {a b : ByteArray} (h : a = b) : Ending.returned (.string a) = .returned (.string b) := by rw [h]
theorem box_next {w W1 : World} {g : Nat} {o : Obj} (h : w.heap[g]? = some o) (hb : Below w.heap.size w W1) : W1.heap[g]? = some o := by
  rw [hb.block _ (by rcases Nat.lt_or_ge g w.heap.size with hlt | hge; exact hlt; rw [Array.getElem?_eq_none hge] at h; cases h)]
  exact h
theorem ltB {w : World} {g : Nat} {o : Obj} (h : w.heap[g]? = some o) : g < w.heap.size := by
  rcases Nat.lt_or_ge g w.heap.size with hlt | hge
  · exact hlt
  · rw [Array.getElem?_eq_none hge] at h; cases h
theorem cellB {w : World} {g : Nat} {cs : Array Value} {t : TypeId} {fr : Nat × Nat} (h : w.heap[g]? = some (.cells cs t fr)) (i : Nat) {v : Value} (e : cs[i]? = some v) : w.cell? ⟨g, i, none⟩ = some v := by
  simp [World.cell?, h, e]
theorem freeB {w : World} {g : Nat} {cs : Array Value} {t : TypeId} (h : w.heap[g]? = some (.cells cs t (0, 0))) (i : Nat) : w.frozen? ⟨g, i, none⟩ = false := by
  simp [World.frozen?, h]
/-- What the package variables hold; all of it lies below block B. -/
structure Env (A : Nat → Addr) (B : Nat) (S : List Nat) (w : World) : Prop where
  hB : B ≤ w.heap.size
  tabs : Lib.Utf8Tabs 22 23 w
  tb : 22 < B ∧ 23 < B
  err : ∀ k, k ∈ S → w.cell? ⟨gErr k, 0, none⟩ = some (errV A k)
  lt : ∀ k, k ∈ S → gErr k < B ∧ (A k).block < B
  blk : ∀ k, k ∈ S → ∃ cs t, w.heap[(A k).block]? = some (.cells cs t (0, 0))
  ne : ∀ j k, j ∈ S → k ∈ S → j ≠ k → A j ≠ A k

theorem Env.below {A : Nat → Addr} {B : Nat} {S : List Nat} {w w' : World} (h : Env A B S w) (hb : Below B w w') : Env A B S w' where
  hB := Nat.le_trans h.hB hb.size
  tabs := ⟨fun c hc => (hb.cell (p := ⟨_, c, none⟩) h.tb.1).trans (h.tabs.1 c hc), fun i hi => ⟨(hb.cell (p := ⟨_, _, none⟩) h.tb.2).trans (h.tabs.2 i hi).1, (hb.cell (p := ⟨_, _, none⟩) h.tb.2).trans (h.tabs.2 i hi).2⟩⟩
  tb := h.tb
  err := fun k hk => (hb.cell (p := ⟨_, _, none⟩) (h.lt k hk).1).trans (h.err k hk)
  lt := h.lt
  blk := fun k hk => by
    obtain ⟨cs, t, hs⟩ := h.blk k hk
    exact ⟨cs, t, (hb.block _ (h.lt k hk).2).trans hs⟩
  ne := h.ne
theorem Env.next {A : Nat → Addr} {B : Nat} {S : List Nat} {w w' : World} (h : Env A B S w) (hb : Below w.heap.size w w') : Env A B S w' := h.below (hb.mono h.hB)
theorem Env.sub {A : Nat → Addr} {B : Nat} {S S' : List Nat} {w : World} (h : Env A B S w) (hs : ∀ k ∈ S', k ∈ S) : Env A B S' w :=
  ⟨h.hB, h.tabs, h.tb, fun k hk => h.err k (hs k hk), fun k hk => h.lt k (hs k hk), fun k hk => h.blk k (hs k hk), fun j k hj hk => h.ne j k (hs j hj) (hs k hk)⟩

theorem Env.e1 {A : Nat → Addr} {B : Nat} {S : List Nat} {w : World} (h : Env A B S w) (hm : 1 ∈ S := by decide) : w.cell? ⟨3, 0, none⟩ = some (.iface 237 (.pointer (some (A 1)))) := h.err 1 hm
theorem Env.e2 {A : Nat → Addr} {B : Nat} {S : List Nat} {w : World} (h : Env A B S w) (hm : 2 ∈ S := by decide) : w.cell? ⟨0, 0, none⟩ = some (.iface 237 (.pointer (some (A 2)))) := h.err 2 hm
theorem Env.e3 {A : Nat → Addr} {B : Nat} {S : List Nat} {w : World} (h : Env A B S w) (hm : 3 ∈ S := by decide) : w.cell? ⟨1, 0, none⟩ = some (.iface 237 (.pointer (some (A 3)))) := h.err 3 hm
theorem Env.e4 {A : Nat → Addr} {B : Nat} {S : List Nat} {w : World} (h : Env A B S w) (hm : 4 ∈ S := by decide) : w.cell? ⟨4, 0, none⟩ = some (.iface 237 (.pointer (some (A 4)))) := h.err 4 hm
theorem Env.e5 {A : Nat → Addr} {B : Nat} {S : List Nat} {w : World} (h : Env A B S w) (hm : 5 ∈ S := by decide) : w.cell? ⟨6, 0, none⟩ = some (.iface 237 (.pointer (some (A 5)))) := h.err 5 hm
theorem Env.e6 {A : Nat → Addr} {B : Nat} {S : List Nat} {w : World} (h : Env A B S w) (hm : 6 ∈ S := by decide) : w.cell? ⟨5, 0, none⟩ = some (.iface 237 (.pointer (some (A 6)))) := h.err 6 hm
theorem Env.e7 {A : Nat → Addr} {B : Nat} {S : List Nat} {w : World} (h : Env A B S w) (hm : 7 ∈ S := by decide) : w.cell? ⟨8, 0, none⟩ = some (.iface 237 (.pointer (some (A 7)))) := h.err 7 hm
theorem Env.e8 {A : Nat → Addr} {B : Nat} {S : List Nat} {w : World} (h : Env A B S w) (hm : 8 ∈ S := by decide) : w.cell? ⟨9, 0, none⟩ = some (.iface 237 (.pointer (some (A 8)))) := h.err 8 hm
theorem Env.e9 {A : Nat → Addr} {B : Nat} {S : List Nat} {w : World} (h : Env A B S w) (hm : 9 ∈ S := by decide) : w.cell? ⟨10, 0, none⟩ = some (.iface 237 (.pointer (some (A 9)))) := h.err 9 hm
theorem Env.e10 {A : Nat → Addr} {B : Nat} {S : List Nat} {w : World} (h : Env A B S w) (hm : 10 ∈ S := by decide) : w.cell? ⟨11, 0, none⟩ = some (.iface 237 (.pointer (some (A 10)))) := h.err 10 hm
theorem Env.e11 {A : Nat → Addr} {B : Nat} {S : List Nat} {w : World} (h : Env A B S w) (hm : 11 ∈ S := by decide) : w.cell? ⟨12, 0, none⟩ = some (.iface 237 (.pointer (some (A 11)))) := h.err 11 hm
theorem Env.e12 {A : Nat → Addr} {B : Nat} {S : List Nat} {w : World} (h : Env A B S w) (hm : 12 ∈ S := by decide) : w.cell? ⟨7, 0, none⟩ = some (.iface 237 (.pointer (some (A 12)))) := h.err 12 hm
theorem Env.e13 {A : Nat → Addr} {B : Nat} {S : List Nat} {w : World} (h : Env A B S w) (hm : 13 ∈ S := by decide) : w.cell? ⟨13, 0, none⟩ = some (.iface 237 (.pointer (some (A 13)))) := h.err 13 hm
theorem Env.e14 {A : Nat → Addr} {B : Nat} {S : List Nat} {w : World} (h : Env A B S w) (hm : 14 ∈ S := by decide) : w.cell? ⟨14, 0, none⟩ = some (.iface 237 (.pointer (some (A 14)))) := h.err 14 hm
theorem Env.e15 {A : Nat → Addr} {B : Nat} {S : List Nat} {w : World} (h : Env A B S w) (hm : 15 ∈ S := by decide) : w.cell? ⟨15, 0, none⟩ = some (.iface 237 (.pointer (some (A 15)))) := h.err 15 hm
theorem Env.e16 {A : Nat → Addr} {B : Nat} {S : List Nat} {w : World} (h : Env A B S w) (hm : 16 ∈ S := by decide) : w.cell? ⟨16, 0, none⟩ = some (.iface 237 (.pointer (some (A 16)))) := h.err 16 hm
theorem Env.e17 {A : Nat → Addr} {B : Nat} {S : List Nat} {w : World} (h : Env A B S w) (hm : 17 ∈ S := by decide) : w.cell? ⟨17, 0, none⟩ = some (.iface 237 (.pointer (some (A 17)))) := h.err 17 hm
theorem Env.e18 {A : Nat → Addr} {B : Nat} {S : List Nat} {w : World} (h : Env A B S w) (hm : 18 ∈ S := by decide) : w.cell? ⟨18, 0, none⟩ = some (.iface 237 (.pointer (some (A 18)))) := h.err 18 hm
theorem Env.e19 {A : Nat → Addr} {B : Nat} {S : List Nat} {w : World} (h : Env A B S w) (hm : 19 ∈ S := by decide) : w.cell? ⟨19, 0, none⟩ = some (.iface 237 (.pointer (some (A 19)))) := h.err 19 hm
theorem Env.e20 {A : Nat → Addr} {B : Nat} {S : List Nat} {w : World} (h : Env A B S w) (hm : 20 ∈ S := by decide) : w.cell? ⟨21, 0, none⟩ = some (.iface 237 (.pointer (some (A 20)))) := h.err 20 hm
theorem Env.e21 {A : Nat → Addr} {B : Nat} {S : List Nat} {w : World} (h : Env A B S w) (hm : 21 ∈ S := by decide) : w.cell? ⟨20, 0, none⟩ = some (.iface 237 (.pointer (some (A 21)))) := h.err 21 hm
theorem Env.l1 {A : Nat → Addr} {B : Nat} {S : List Nat} {w : World} (h : Env A B S w) (hm : 1 ∈ S := by decide) : 3 < w.heap.size := Nat.lt_of_lt_of_le (h.lt 1 hm).1 h.hB
theorem Env.l2 {A : Nat → Addr} {B : Nat} {S : List Nat} {w : World} (h : Env A B S w) (hm : 2 ∈ S := by decide) : 0 < w.heap.size := Nat.lt_of_lt_of_le (h.lt 2 hm).1 h.hB
theorem Env.l4 {A : Nat → Addr} {B : Nat} {S : List Nat} {w : World} (h : Env A B S w) (hm : 4 ∈ S := by decide) : 4 < w.heap.size := Nat.lt_of_lt_of_le (h.lt 4 hm).1 h.hB
theorem Env.l5 {A : Nat → Addr} {B : Nat} {S : List Nat} {w : World} (h : Env A B S w) (hm : 5 ∈ S := by decide) : 6 < w.heap.size := Nat.lt_of_lt_of_le (h.lt 5 hm).1 h.hB
end Go.Proofs.YtibopkodoidjoaaGreatDoor

/- From a law's walk to its row: what is read of the start, and what the post asks. -/
namespace Go.Proofs.YtibopkodoidjoaaGreatDoor
open Go Go.RowKit Go.WideShapes Go.ChangeShapes

section
variable {H : Type} {enc : TypeId × Value → H} {P : Program}
theorem post_of_below {f : Func} {s : ChangeSpec} {apart fresh handsOn again : Bool} {W W' : World} {args : Array Value} {v : Value} {ds gs : List (DataW H)} {before pa pv : List MemPlace}
    (hW : DataW.Whole enc P f.params.toList s.vars apart W args.toList ds gs before)
    (hres : ∀ (b : Nat) (sp : Nat → Bool) (hd : Bool), DataW.TrodAll enc P W' b sp hd f.resultTypes.toList (v.resultList f.resultTypes.size) (s.fn H (ds ++ gs)).results [])
    (hargs : ∀ sp : Nat → Bool, (∀ p ∈ before, sp p.block = true) → DataW.TrodAll enc P W' 0 sp true f.params.toList args.toList (s.fn H (ds ++ gs)).args pa)
    (hvars : ∀ sp : Nat → Bool, (∀ p ∈ before, sp p.block = true) → DataW.TrodVars enc P W' sp s.vars (s.fn H (ds ++ gs)).vars pv)
    (hps : before = pa ++ pv) (hb : Below W.heap.size W W')
    (hok : ∀ (j : Nat) (t : TypeId) (r : Value), f.resultTypes[j]? = some t → (v.resultList f.resultTypes.size)[j]? = some r → Value.okWide P W' .any 0 t r) :
    s.post enc P f apart fresh handsOn again W args v W' := by
  have hlt : ∀ p ∈ before, p.block < W.heap.size := fun p hp => hW.lt p hp
  have hold : ∀ p ∈ before, (fun b => decide (b < W.heap.size)) p.block = true := fun p hp => by simpa using hlt p hp
  refine ⟨ds, gs, before, [], pa, pv, hW, hres _ _ _, hargs _ hold, hvars _ hold, World.keptBut_mono (fun p hp => ⟨hp, ?_⟩) (hb.frame (· ∈ before)), fun _ => ?_⟩
  · rw [hps, List.mem_append] at hp
    exact Or.inr hp
  · obtain ⟨_, _, _, _, _, hz, hn⟩ := hW
    refine ⟨hok, _, _, ([] ++ pa) ++ pv, ⟨[] ++ pa, pv, trodAll_append (hargs _ (fun _ _ => rfl)) (hres _ _ _), hvars _ (fun _ _ => rfl), rfl, ?_, ?_⟩, ?_⟩
    · intro b off hp
      have hin : MemPlace.cell b off ∈ before := by rw [hps]; simpa using hp
      rw [hb.frozen (hlt _ hin)]
      exact hz b off hin
    · intro ha
      have := hn ha
      rw [hps] at this
      simpa using this
    · intro p hp _
      rw [hps]
      simpa using hp
end

section
variable {H : Type} {enc : TypeId × Value → H} {P : Program}
theorem trodAll_below (hl : laidOutB P = true) {W W' : World} (hb : Below W.heap.size W W') {sp : Nat → Bool} :
    ∀ {ts : List TypeId} {vs : List Value} {ds : List (DataW H)} {ps : List MemPlace}, DataW.TrodAll enc P W 0 (fun _ => true) true ts vs ds ps → (∀ t ∈ ts, P.readableRec t = true ∧ t < P.types.size) →
      (∀ x ∈ ps, x.block < W.heap.size ∧ sp x.block = true) → DataW.TrodAll enc P W' 0 sp true ts vs ds ps
  | [], [], [], _, h, _, _ => h
  | t :: ts, v :: vs, d :: ds, ps, h, ht, hp => by
    obtain ⟨p, q, h1, h2, rfl⟩ := h
    exact ⟨p, q, WideElems.Trod_stays hl (ht t (List.mem_cons_self ..)).1 (ht t (List.mem_cons_self ..)).2 h1 (fun x hx => hb.same (hp x (List.mem_append_left _ hx)).1) (fun x hx => (hp x (List.mem_append_left _ hx)).2),
      trodAll_below hl hb h2 (fun t' h' => ht t' (List.mem_cons_of_mem _ h')) (fun x hx => hp x (List.mem_append_right _ hx)), rfl⟩
/-- A law that answers true and leaves all that was there as it was meets its post. -/
theorem lawPost {f : Func} {s : ChangeSpec} {apart fresh handsOn again : Bool} {W W' : World} {args : Array Value} {ds gs : List (DataW H)} {before : List MemPlace} {tb : TypeId}
    (hl : laidOutB P = true) (hv : s.vars = []) (hrt : f.resultTypes = #[tb]) (htb : P.underlying tb = some .bool) (hread : f.params.toList.all (fun t => P.readableRec t && decide (t < P.types.size)) = true)
    (hW : DataW.Whole enc P f.params.toList s.vars apart W args.toList ds gs before) (hfn : s.fn H (ds ++ gs) = { results := [.lit (.bool true)], args := ds }) (hb : Below W.heap.size W W') :
    s.post enc P f apart fresh handsOn again W args (.bool true) W' := by
  have hW0 := hW
  obtain ⟨p, q, hA, hV, rfl, hfz, hnd⟩ := hW
  rw [hv] at hV
  obtain ⟨rfl, rfl⟩ := trodVars_none hV
  have hlt : ∀ x ∈ p ++ [], x.block < W.heap.size := fun x hx => hW0.lt x hx
  have hall : ∀ t ∈ f.params.toList, P.readableRec t = true ∧ t < P.types.size := fun t ht => by
    have := List.all_eq_true.1 hread t ht
    simpa using this
  have hres : (Value.bool true).resultList f.resultTypes.size = [.bool true] := by rw [hrt]; rfl
  refine post_of_below (pa := p) (pv := []) hW0 (fun b sp hd => ?_) (fun sp hs => ?_) (fun sp hs => ?_) (by simp) hb ?_
  · rw [hres, hrt, hfn]
    exact trodAll_mk1 (shut_bool htb true)
  · rw [hfn]
    exact trodAll_below hl hb hA hall fun x hx => ⟨hlt x (by simpa using hx), hs x (by simpa using hx)⟩
  · rw [hv, hfn]
    exact rfl
  · rw [hres, hrt]
    intro j t r ht hr
    match j with
    | 0 =>
      simp at ht hr
      subst ht; subst hr
      exact okWide_bool_mk htb true
    | j + 1 => simp at ht
end

/-! ### The listed variables -/
def sentD (text : List UInt8) : DataW Unit := .iface "*errors.errorString" (.ptr (.agg [.lit (.string text)]))
theorem laidVars_all {P : Program} {w : World} {Q : MemPlace → Prop} : ∀ {l : List (String × DataW Unit)} {ps : List MemPlace}, DataW.LaidVars P w l ps → (∀ x ∈ ps, Q x) → ∀ n d, (n, d) ∈ l →
    ∃ g t cs fuel p, P.globalNamed n = some g ∧ (P.globals[g]?).map (·.type) = some t ∧ w.var? P n = some cs ∧ DataW.trod (fun _ => ()) P w 0 (fun _ => true) false fuel t cs.toList = some (d, p) ∧ ∀ x ∈ MemPlace.row ⟨g, 0, none⟩ cs.size ++ p, Q x
  | [], _, _, _, _, _, hm => by cases hm
  | (n', d') :: r, ps, h, hq, n, d, hm => by
    obtain ⟨g, t, cs, fuel, p, q, h1, h2, h3, h4, h5, rfl⟩ := h
    rcases List.mem_cons.1 hm with e | e
    · cases e
      exact ⟨g, t, cs, fuel, p, h1, h2, h3, h4, fun x hx => hq x (List.mem_append_left _ hx)⟩
    · exact laidVars_all h5 (fun x hx => hq x (List.mem_append_right _ hx)) n d e
theorem starErr : "*" ++ "errors.errorString" = "*errors.errorString" := by decide
theorem typeErr (u : TypeId) (h : Tryz.prog.typeName? 3 u = some "*errors.errorString") : u = 237 :=
  typeName_ptr_named (nm := "errors.errorString") (by rw [starErr]; kernel_rfl) (by kernel_rfl) (by decide) u (by rw [starErr]; exact h)
set_option maxRecDepth 100000 in
/-- A listed sentinel: the variable holds a pointer, behind it stands the text. -/
theorem sent_of {l : List (String × DataW Unit)} {W : World} (h : laidMet Tryz.prog l W) {n : String} {text : List UInt8} (hm : (n, sentD text) ∈ l) {g : Nat} (hg : Tryz.prog.globalNamed n = some g)
    (ht : (Tryz.prog.globals[g]?).map (·.type) = some 26) :
    ∃ a s cs t, W.cell? ⟨g, 0, none⟩ = some (.iface 237 (.pointer (some a))) ∧ W.cell? a = some (.string s) ∧ s.data.toList = text ∧ W.heap[a.block]? = some (.cells cs t (0, 0)) := by
  obtain ⟨ps, hv, hnd, hrows⟩ := h
  obtain ⟨g', t', cs, fuel, p, h1, h2, h3, h4, h5⟩ := laidVars_all hv (Q := fun x => ∀ b off, x = MemPlace.cell b off → (∃ c t, W.heap[b]? = some (.cells c t (0, 0))) ∧ ∀ u v, W.cell? ⟨b, off, none⟩ = some (.iface u v) → Value.okWide Tryz.prog W .any 0 u v)
    (fun x hx b off e => hrows b off (e ▸ hx)) n _ hm
  obtain rfl := Option.some.inj (hg.symm.trans h1)
  obtain rfl := Option.some.inj (ht.symm.trans h2)
  obtain ⟨l0⟩ := cs
  have ok0 : ∀ u v, l0 = [.iface u v] → Value.okWide Tryz.prog W .any 0 u v := fun u v e => by
    subst e
    exact (h5 (.cell g 0) (by simp [MemPlace.row]) g 0 rfl).2 u v (by rw [World.var?_cell hg h3 0]; rfl)
  obtain ⟨a, s, rfl, hc, hs, hz, rfl⟩ := errorString_of_trod Tryz.underlying26 typeErr Tryz.underlying237 Tryz.underlying239 rfl rfl Tryz.underlying9 (by kernel_rfl) (by kernel_rfl) h4 ok0
  obtain ⟨c0, t0, hb0⟩ := (h5 (.cell a.block a.off) (by simp [MemPlace.row]) a.block a.off rfl).1
  exact ⟨a, s, c0, t0, by rw [World.var?_cell hg h3 0]; rfl, hc, hs, hb0⟩

/-- The sentinels' texts, and the names of their variables. -/
def txErr : Nat → List UInt8
  | 1 => [118, 101, 108, 108, 117, 109, 58, 32, 117, 116, 102, 45, 56]
  | 2 => [118, 101, 108, 108, 117, 109, 58, 32, 106, 115, 111, 110]
  | 3 => [118, 101, 108, 108, 117, 109, 58, 32, 110, 101, 115, 116, 105, 110, 103]
  | 4 => [118, 101, 108, 108, 117, 109, 58, 32, 110, 117, 109, 98, 101, 114]
  | 5 => [118, 101, 108, 108, 117, 109, 58, 32, 107, 105, 110, 100]
  | 6 => [118, 101, 108, 108, 117, 109, 58, 32, 107, 101, 121]
  | 7 => [118, 101, 108, 108, 117, 109, 58, 32, 110, 117, 108, 108]
  | 8 => [118, 101, 108, 108, 117, 109, 58, 32, 97, 116, 116, 114, 105, 98, 117, 116, 101, 115]
  | 9 => [118, 101, 108, 108, 117, 109, 58, 32, 111, 112, 101, 114, 97, 116, 105, 111, 110]
  | 10 => [118, 101, 108, 108, 117, 109, 58, 32, 108, 105, 109, 105, 116]
  | 11 => [118, 101, 108, 108, 117, 109, 58, 32, 108, 111, 110, 103]
  | 12 => [118, 101, 108, 108, 117, 109, 58, 32, 114, 97, 110, 103, 101]
  | 13 => [118, 101, 108, 108, 117, 109, 58, 32, 115, 99, 104, 101, 109, 97]
  | 14 => [118, 101, 108, 108, 117, 109, 58, 32, 101, 110, 100]
  | 15 => [118, 101, 108, 108, 117, 109, 58, 32, 101, 109, 112, 116, 121]
  | 16 => [118, 101, 108, 108, 117, 109, 58, 32, 109, 97, 114, 107]
  | 17 => [118, 101, 108, 108, 117, 109, 58, 32, 114, 101, 112, 108, 105, 99, 97]
  | 18 => [118, 101, 108, 108, 117, 109, 58, 32, 98, 121, 116, 101, 115]
  | 19 => [118, 101, 108, 108, 117, 109, 58, 32, 99, 111, 109, 109, 97, 110, 100]
  | 20 => [118, 97, 108, 117, 101, 32, 111, 117, 116, 32, 111, 102, 32, 114, 97, 110, 103, 101]
  | 21 => [105, 110, 118, 97, 108, 105, 100, 32, 115, 121, 110, 116, 97, 120]
  | _ => []
def nmErr : Nat → String
  | 1 => "vellum/api.ErrUtf8"
  | 2 => "vellum/api.ErrJson"
  | 3 => "vellum/api.ErrNest"
  | 4 => "vellum/api.ErrNumber"
  | 5 => "vellum/api.ErrKind"
  | 6 => "vellum/api.ErrKey"
  | 7 => "vellum/api.ErrNull"
  | 8 => "vellum/api.ErrAttrs"
  | 9 => "vellum/api.ErrOp"
  | 10 => "vellum/api.ErrLimit"
  | 11 => "vellum/api.ErrLong"
  | 12 => "vellum/api.ErrRange"
  | 13 => "vellum/api.ErrSchema"
  | 14 => "vellum/api.ErrEnd"
  | 15 => "vellum/api.ErrEmpty"
  | 16 => "vellum/api.ErrMark"
  | 17 => "vellum/api.ErrReplica"
  | 18 => "vellum/api.ErrBytes"
  | 19 => "vellum/api.ErrCommand"
  | 20 => "strconv.ErrRange"
  | 21 => "strconv.ErrSyntax"
  | _ => ""
def addrAt (W : World) (g : Nat) : Addr := match W.cell? ⟨g, 0, none⟩ with | some (.iface _ (.pointer (some a))) => a | _ => ⟨0, 0, none⟩
theorem laidMet_of_H {P : Program} {l : List (String × DataW Unit)} {w : World} (hn : (l.filter fun x => x.2.handleName?.isSome) = []) (h : laidMetH P l w) : laidMet P l w := by
  unfold laidMetH at h
  rw [hn] at h
  exact h
theorem tabs_of {l : List (String × DataW Unit)} {W : World} (h : laidMet Tryz.prog l W) (h1 : ("unicode/utf8.first", Go.Pinned.utf8First) ∈ l) (h2 : ("unicode/utf8.acceptRanges", Lib.acceptData) ∈ l) :
    Lib.Utf8Tabs 22 23 W := by
  rw [Pinned.utf8First_eq] at h1
  exact utf8Tabs_of_reads (ρ := Tryz.lays260_ren) Tryz.lays260 ⟨by kernel_rfl, by kernel_rfl, by kernel_rfl, by kernel_rfl, by kernel_rfl, by kernel_rfl, by kernel_rfl⟩ (Lib.laidMet.reads h h1) (Lib.laidMet.reads h h2)
theorem env_mk {S : List Nat} {l : List (String × DataW Unit)} {W : World} (h : laidMet Tryz.prog l W) (h1 : ("unicode/utf8.first", Go.Pinned.utf8First) ∈ l) (h2 : ("unicode/utf8.acceptRanges", Lib.acceptData) ∈ l)
    (hs : ∀ k ∈ S, (nmErr k, sentD (txErr k)) ∈ l) (hg : ∀ k ∈ S, Tryz.prog.globalNamed (nmErr k) = some (gErr k) ∧ (Tryz.prog.globals[gErr k]?).map (·.type) = some 26)
    (hpos : ∀ k ∈ S, 0 < k) (hinj : ∀ j ∈ S, ∀ k ∈ S, txErr j = txErr k → j = k) : Env (fun k => addrAt W (gErr k)) W.heap.size S W := by
  have ht := tabs_of h h1 h2
  have hsent : ∀ k ∈ S, ∃ a s cs t, W.cell? ⟨gErr k, 0, none⟩ = some (.iface 237 (.pointer (some a))) ∧ W.cell? a = some (.string s) ∧ s.data.toList = txErr k ∧ W.heap[a.block]? = some (.cells cs t (0, 0)) :=
    fun k hk => sent_of h (hs k hk) (hg k hk).1 (hg k hk).2
  have hA : ∀ k ∈ S, ∀ a, W.cell? ⟨gErr k, 0, none⟩ = some (.iface 237 (.pointer (some a))) → addrAt W (gErr k) = a := fun k hk a e => by
    unfold addrAt; rw [e]
  refine ⟨Nat.le_refl _, ht, ⟨World.block_lt_of_cell? W _ (ht.1 0 (by decide)), World.block_lt_of_cell? W _ (ht.2 0 (by decide)).1⟩, fun k hk => ?_, fun k hk => ?_, fun k hk => ?_, fun j k hj hk hne => ?_⟩
  · obtain ⟨a, s, cs, t, hc, _, _, _⟩ := hsent k hk
    rw [errV_pos _ (hpos k hk), hA k hk a hc]
    exact hc
  · obtain ⟨a, s, cs, t, hc, _, _, hb⟩ := hsent k hk
    refine ⟨World.block_lt_of_cell? W _ hc, ?_⟩
    show (addrAt W (gErr k)).block < _
    rw [hA k hk a hc]
    exact ltB hb
  · obtain ⟨a, s, cs, t, hc, _, _, hb⟩ := hsent k hk
    refine ⟨cs, t, ?_⟩
    show W.heap[(addrAt W (gErr k)).block]? = _
    rw [hA k hk a hc]
    exact hb
  · obtain ⟨a, s, _, _, hc, hca, hsa, _⟩ := hsent j hj
    obtain ⟨b, s', _, _, hc', hcb, hsb, _⟩ := hsent k hk
    show addrAt W (gErr j) ≠ addrAt W (gErr k)
    rw [hA j hj a hc, hA k hk b hc']
    rintro rfl
    rw [hca] at hcb
    have e : s = s' := by injection hcb with hcb; injection hcb
    exact hne (hinj j hj k hk (by rw [← hsa, ← hsb, e]))
end Go.Proofs.YtibopkodoidjoaaGreatDoor

/- Package scalars: the walks. -/
namespace Go.Proofs.YtibopkodoidjoaaGreatDoor
open Go Go.RowKit
abbrev SU : List Nat := [1]

/-- The scalar that s begins with, and its bytes; (0, 0): none. -/
def nextS (s : ByteArray) : Nat × Nat := if (Lib.decodeGo s).1 = 65533 ∧ (Lib.decodeGo s).2 < 2 then (0, 0) else Lib.decodeGo s

set_option maxHeartbeats 400000 in
theorem next_calls {A : Nat → Addr} {B : Nat} (s : ByteArray) (w : World) (hE : Env A B SU w) :
    Calls Tryz.prog 89 #[.string s] w fun e w' => e = .returned (.tuple #[.int .i32 (nextS s).1, .int .i64 (nextS s).2]) ∧ Below w.heap.size w w' := by
  have hT := hE.tabs
  unfold nextS
  generalize hd : Lib.decodeGo s = d
  have c := Tryz.utf8_DecodeRuneInString s w hT
  rw [hd] at c
  obtain ⟨r, n⟩ := d
  have C := Lib.hid c
  clear c hd hT
  go_enter Tryz.func89, Tryz.ntmps89
  go_wp2_with fail
  refine (C.out).mono ?_
  rintro e w1 ⟨rfl, hb⟩
  go_wp2_with fail
  all_goals go_ret2
  all_goals exact ⟨rfl, hb⟩

/-- How wide the scalar at a place is; 0: none begins there. -/
def widthAt (s : ByteArray) (k : Nat) : Nat := (nextS (s.extract k s.size)).2
theorem decode_le (s : ByteArray) (h : 0 < s.size) : (Utf8.decode s 0).2 ≤ s.size := by
  unfold Utf8.decode
  simp only [Bool.and_eq_true, decide_eq_true_eq]
  repeat' split
  all_goals (simp only; omega)
theorem extract_size (s : ByteArray) (k : Nat) (h : k ≤ s.size) : (s.extract k s.size).size = s.size - k := by
  rw [ByteArray.size_extract]; omega
theorem nextS_le (s : ByteArray) : (nextS s).2 ≤ s.size := by
  unfold nextS
  split
  · exact Nat.zero_le _
  · unfold Lib.decodeGo
    split
    · rename_i h; exact absurd h (by rename_i h2; intro h3; apply h2; simp [Lib.decodeGo, h3])
    · exact decode_le s (by omega)
theorem widthAt_le (s : ByteArray) (k : Nat) (h : k < s.size) : k + widthAt s k ≤ s.size := by
  have h1 := nextS_le (s.extract k s.size)
  have h2 := extract_size s k (by omega)
  unfold widthAt
  omega
/-- Where s breaks, from a place on. -/
def brkF (s : ByteArray) : Nat → Nat → Nat
  | 0, k => k
  | f + 1, k => if k < s.size then (if widthAt s k = 0 then k else brkF s f (k + widthAt s k)) else k
def brkAt (s : ByteArray) (k : Nat) : Nat := brkF s (s.size - k) k
theorem brkF_fuel (s : ByteArray) : ∀ f g k, s.size - k ≤ f → s.size - k ≤ g → brkF s f k = brkF s g k := by
  intro f
  induction f with
  | zero =>
    intro g k hf hg
    cases g with
    | zero => rfl
    | succ g => rw [brkF, brkF, if_neg (by omega)]
  | succ f ih =>
    intro g k hf hg
    cases g with
    | zero => rw [brkF, brkF, if_neg (by omega)]
    | succ g =>
      rw [brkF, brkF]
      by_cases h : k < s.size
      · rw [if_pos h, if_pos h]
        by_cases hw : widthAt s k = 0
        · rw [if_pos hw, if_pos hw]
        · rw [if_neg hw, if_neg hw]; exact ih g _ (by omega) (by omega)
      · rw [if_neg h, if_neg h]
theorem brkAt_eq (s : ByteArray) (k : Nat) : brkAt s k = if k < s.size then (if widthAt s k = 0 then k else brkAt s (k + widthAt s k)) else k := by
  unfold brkAt
  by_cases h : k < s.size
  · obtain ⟨f, hf⟩ : ∃ f, s.size - k = f + 1 := ⟨s.size - k - 1, by omega⟩
    rw [hf, brkF, if_pos h, if_pos h]
    by_cases hw : widthAt s k = 0
    · rw [if_pos hw, if_pos hw]
    · rw [if_neg hw, if_neg hw]; exact brkF_fuel s _ _ _ (by omega) (by omega)
  · rw [if_neg h, show s.size - k = 0 by omega]; rfl
/-- Its error: 1, if s is no UTF-8. -/
def utfE (s : ByteArray) : Nat := if brkAt s 0 < s.size then 1 else 0
set_option maxHeartbeats 400000 in
theorem scalarsCheck_calls {A : Nat → Addr} {B : Nat} (s : ByteArray) (w : World) (hs : s.size ≤ 140737488351232) (hE : Env A B SU w) :
    Calls Tryz.prog 71 #[.string s] w fun e w' => e = .returned (.tuple #[.int .i64 (brkAt s 0), errV A (utfE s)]) ∧ Below w.heap.size w w' := by
  go_enter Tryz.func71, Tryz.ntmps71
  go_wp2_with fail
  go_loopw [4] (fun i wr => ∃ k : Nat, k ≤ s.size ∧ i = .int .i64 k ∧ Hid (brkAt s k = brkAt s 0) ∧ Below w.heap.size w wr) (fun i _ => s.size - (intOf i).toNat)
  case atStart => exact ⟨0, Nat.zero_le _, rfl, rfl, Below.refl _ _⟩
  case round =>
    obtain ⟨k, hk, rfl, hr, hb⟩ := hrel
    have hE1 := hE.next hb
    by_cases hlt : k < s.size
    · go_wp2_with fail
      refine (next_calls _ _ hE1).mono ?_
      rintro e w1 ⟨rfl, hb1⟩
      have hb2 := hb.trans (hb1.mono hb.size)
      have hE2 := hE.next hb2
      have h1 := hE2.e1
      have hw := widthAt_le s k hlt
      unfold widthAt at hw
      have hcond : Hid (brkAt s k = if widthAt s k = 0 then k else brkAt s (k + widthAt s k)) := by
        rw [brkAt_eq, if_pos hlt]; exact rfl
      unfold widthAt at hcond
      generalize hm : (nextS (s.extract k s.size)).2 = m at *
      have Hm := Lib.hid hm
      clear hm
      by_cases hz : m = 0
      · subst hz
        go_wp2_with fail
        go_region
        all_goals
          go_wp2_with fail
          go_ret2
          have e0 : brkAt s 0 = k := by rw [← hr.out, hcond.out]; simp
          have e1 : utfE s = 1 := by rw [utfE, e0, if_pos hlt]
          rw [e0, e1]
          exact ⟨rfl, by repeat (first | exact hb2 | apply Below.drew)⟩
      · have hz0 : ((m : Int) == 0) = false := by simp; omega
        go_wp2_with fail
        go_roundw
        case rel => exact ⟨k + m, by omega, by go_num, by rw [← hr.out, hcond.out, if_neg hz]; rfl, hb2⟩
        case measure => simp [intOf]; omega
    · have e0 : brkAt s 0 = k := by rw [← hr.out, brkAt_eq, if_neg hlt]
      go_wp2_with fail
      go_ret2
      have e1 : utfE s = 0 := by rw [utfE, e0, if_neg (by omega)]
      rw [e0, e1]
      exact ⟨rfl, hb⟩

end Go.Proofs.YtibopkodoidjoaaGreatDoor

/- The reference's UTF-8 (layer 1): plain functions, and the walks. -/
namespace Go.Proofs.YtibopkodoidjoaaGreatDoor
open Go Go.RowKit

/-! ### On numbers -/
def rN (b : Nat) : Nat := if 240 ≤ b then 4 else if 224 ≤ b then 3 else if 192 ≤ b then 2 else 1
def rB (b : Nat) : Nat := if 240 ≤ b then b - 240 else if 224 ≤ b then b - 224 else if 192 ≤ b then b - 192 else b
def scalarN (r : Nat) : Bool := r < 55296 || (57344 ≤ r && r ≤ 1114111)
def encN (r : Nat) : List Nat :=
  if r < 128 then [r]
  else if r < 2048 then [192 + r / 64, 128 + r % 64]
  else if r < 65536 then [224 + r / 4096, 128 + r / 64 % 64, 128 + r % 64]
  else [240 + r / 262144, 128 + r / 4096 % 64, 128 + r / 64 % 64, 128 + r % 64]
def accB (b : Nat → Nat) : Nat → Nat
  | 0 => rB (b 0)
  | j + 1 => accB b j * 64 + b (j + 1) % 64
/-- The scalar that begins there by its encoding, and its bytes; (0, 0): none. n: how many bytes there are. -/
def refF (b : Nat → Nat) (n : Nat) : Nat × Nat :=
  if n < rN (b 0) then (0, 0)
  else if scalarN (accB b (rN (b 0) - 1)) = true ∧ encN (accB b (rN (b 0) - 1)) = (List.range (rN (b 0))).map b then (accB b (rN (b 0) - 1), rN (b 0))
  else (0, 0)
theorem enc4 {a x y z : Nat} (hx : x < 64) (hy : y < 64) (hz : z < 64) (h : 65536 ≤ a * 262144 + x * 4096 + y * 64 + z) : encN (a * 262144 + x * 4096 + y * 64 + z) = [240 + a, 128 + x, 128 + y, 128 + z] := by
  unfold encN
  rw [if_neg (by omega), if_neg (by omega), if_neg (by omega)]
  rw [show (a * 262144 + x * 4096 + y * 64 + z) / 262144 = a by omega, show (a * 262144 + x * 4096 + y * 64 + z) / 4096 % 64 = x by omega, show (a * 262144 + x * 4096 + y * 64 + z) / 64 % 64 = y by omega, show (a * 262144 + x * 4096 + y * 64 + z) % 64 = z by omega]
theorem enc3 {x y z : Nat} (hy : y < 64) (hz : z < 64) (h : 2048 ≤ x * 4096 + y * 64 + z) (h2 : x * 4096 + y * 64 + z < 65536) : encN (x * 4096 + y * 64 + z) = [224 + x, 128 + y, 128 + z] := by
  unfold encN
  rw [if_neg (by omega), if_neg (by omega), if_pos (by omega)]
  rw [show (x * 4096 + y * 64 + z) / 4096 = x by omega, show (x * 4096 + y * 64 + z) / 64 % 64 = y by omega, show (x * 4096 + y * 64 + z) % 64 = z by omega]
theorem enc2 {y z : Nat} (hz : z < 64) (h : 128 ≤ y * 64 + z) (h2 : y * 64 + z < 2048) : encN (y * 64 + z) = [192 + y, 128 + z] := by
  unfold encN
  rw [if_neg (by omega), if_pos (by omega)]
  rw [show (y * 64 + z) / 64 = y by omega, show (y * 64 + z) % 64 = z by omega]
theorem encN_len (r : Nat) : (encN r).length = if r < 128 then 1 else if r < 2048 then 2 else if r < 65536 then 3 else 4 := by
  unfold encN; repeat' split
  all_goals rfl
theorem err_pair {d : Nat × Nat} (h : d = (65533, 1)) : (if d.1 = 65533 ∧ d.2 < 2 then ((0, 0) : Nat × Nat) else d) = (0, 0) := by subst h; rfl
theorem ok_pair {r n : Nat} (h : 2 ≤ n ∨ r ≠ 65533) : (if (r, n).1 = 65533 ∧ (r, n).2 < 2 then ((0, 0) : Nat × Nat) else (r, n)) = (r, n) := by
  rw [if_neg (by simp only; omega)]
theorem split64 {b : Nat} (h : b < 256) : ∃ q x, b = 64 * q + x ∧ x < 64 ∧ q < 4 ∧ b % 64 = x ∧ b / 64 = q := ⟨b / 64, b % 64, by omega, by omega, by omega, rfl, rfl⟩
theorem refF_eq (b : Nat → Nat) (n : Nat) (hn : 1 ≤ n) (h0 : b 0 < 256) (h1 : b 1 < 256) (h2 : b 2 < 256) (h3 : b 3 < 256) :
    refF b n = if (Lib.decodeN n (b 0) (b 1) (b 2) (b 3)).1 = 65533 ∧ (Lib.decodeN n (b 0) (b 1) (b 2) (b 3)).2 < 2 then (0, 0) else Lib.decodeN n (b 0) (b 1) (b 2) (b 3) := by
  have c1 : (List.range 1).map b = [b 0] := by simp [List.range_succ]
  have c2 : (List.range 2).map b = [b 0, b 1] := by simp [List.range_succ]
  have c3 : (List.range 3).map b = [b 0, b 1, b 2] := by simp [List.range_succ]
  have c4 : (List.range 4).map b = [b 0, b 1, b 2, b 3] := by simp [List.range_succ]
  obtain ⟨q1, x, e1, hx, hq1, m1, d1⟩ := split64 h1
  obtain ⟨q2, y, e2, hy, hq2, m2, d2⟩ := split64 h2
  obtain ⟨q3, z, e3, hz, hq3, m3, d3⟩ := split64 h3
  unfold refF
  by_cases k4 : 240 ≤ b 0
  · obtain ⟨a, ea⟩ : ∃ a, b 0 = 240 + a := ⟨b 0 - 240, by omega⟩
    have e : rN (b 0) = 4 := by unfold rN; rw [if_pos k4]
    have ac : accB b (4 - 1) = a * 262144 + x * 4096 + y * 64 + z := by
      simp only [accB, rB, if_pos k4, m1, m2, m3]; omega
    rw [e, ac, c4]
    have dn : Lib.decodeN n (b 0) (b 1) (b 2) (b 3) = if a < 8 ∧ q1 = 2 ∧ q2 = 2 ∧ q3 = 2 ∧ 3 < n then (if a * 262144 + x * 4096 + y * 64 + z ≥ 65536 ∧ (a * 262144 + x * 4096 + y * 64 + z < 55296 ∨ (57344 ≤ a * 262144 + x * 4096 + y * 64 + z ∧ a * 262144 + x * 4096 + y * 64 + z ≤ 1114111)) then (a * 262144 + x * 4096 + y * 64 + z, 4) else (65533, 1)) else (65533, 1) := by
      unfold Lib.decodeN
      rw [if_neg (by omega), if_neg (by omega), if_neg (by omega), d1, d2, d3, m1, m2, m3]
      by_cases h8 : a < 8
      · rw [show b 0 % 8 = a by omega]
        by_cases hq : q1 = 2 ∧ q2 = 2 ∧ q3 = 2 ∧ 3 < n
        · rw [if_pos (show b 0 / 8 = 30 ∧ (1 < n ∧ q1 = 2) ∧ (2 < n ∧ q2 = 2) ∧ (3 < n ∧ q3 = 2) from ⟨by omega, ⟨by omega, hq.1⟩, ⟨by omega, hq.2.1⟩, hq.2.2.2, hq.2.2.1⟩), if_pos (show a < 8 ∧ q1 = 2 ∧ q2 = 2 ∧ q3 = 2 ∧ 3 < n from ⟨h8, hq⟩)]
        · rw [if_neg (fun h => hq ⟨h.2.1.2, h.2.2.1.2, h.2.2.2.2, h.2.2.2.1⟩), if_neg (fun h => hq h.2)]
      · rw [if_neg (fun h => h8 (by omega)), if_neg (fun h => h8 h.1)]
    rw [dn]
    generalize hr : a * 262144 + x * 4096 + y * 64 + z = r
    by_cases hn4 : n < 4
    · rw [if_pos hn4, err_pair (if_neg (fun h => by omega))]
    · rw [if_neg hn4]
      by_cases hall : a < 8 ∧ q1 = 2 ∧ q2 = 2 ∧ q3 = 2 ∧ 3 < n
      · rw [if_pos hall]
        by_cases hr2 : 65536 ≤ r ∧ r ≤ 1114111
        · rw [if_pos (show r ≥ 65536 ∧ (r < 55296 ∨ (57344 ≤ r ∧ r ≤ 1114111)) by omega), ok_pair (Or.inl (by omega)), if_pos]
          refine ⟨by simp [scalarN]; omega, ?_⟩
          rw [← hr, enc4 hx hy hz (by omega), ea, e1, e2, e3, hall.2.1, hall.2.2.1, hall.2.2.2.1]
        · rw [if_neg (show ¬ (r ≥ 65536 ∧ (r < 55296 ∨ (57344 ≤ r ∧ r ≤ 1114111))) by omega), err_pair rfl, if_neg]
          rintro ⟨hs, he⟩
          have hl := congrArg List.length he
          rw [encN_len] at hl
          simp only [scalarN, Bool.or_eq_true, Bool.and_eq_true, decide_eq_true_eq] at hs
          simp only [List.length_cons, List.length_nil] at hl
          repeat' split at hl
          all_goals omega
      · rw [if_neg hall, err_pair rfl, if_neg]
        rintro ⟨hs, he⟩
        have hl := congrArg List.length he
        rw [encN_len] at hl
        simp only [scalarN, Bool.or_eq_true, Bool.and_eq_true, decide_eq_true_eq] at hs
        simp only [List.length_cons, List.length_nil] at hl
        have hbig : 65536 ≤ r := by
          repeat' split at hl
          all_goals omega
        rw [← hr, enc4 hx hy hz (by omega)] at he
        simp only [List.cons.injEq, and_true] at he
        omega
  by_cases k3 : 224 ≤ b 0
  · obtain ⟨a, ea⟩ : ∃ a, b 0 = 224 + a := ⟨b 0 - 224, by omega⟩
    have e : rN (b 0) = 3 := by unfold rN; rw [if_neg k4, if_pos k3]
    have ac : accB b (3 - 1) = a * 4096 + x * 64 + y := by
      simp only [accB, rB, if_neg k4, if_pos k3, m1, m2]; omega
    rw [e, ac, c3]
    have dn : Lib.decodeN n (b 0) (b 1) (b 2) (b 3) = if q1 = 2 ∧ q2 = 2 ∧ 2 < n then (if a * 4096 + x * 64 + y ≥ 2048 ∧ (a * 4096 + x * 64 + y < 55296 ∨ (57344 ≤ a * 4096 + x * 64 + y ∧ a * 4096 + x * 64 + y ≤ 1114111)) then (a * 4096 + x * 64 + y, 3) else (65533, 1)) else (65533, 1) := by
      unfold Lib.decodeN
      rw [if_neg (by omega), if_neg (by omega), d1, d2, m1, m2, show b 0 % 16 = a by omega]
      by_cases hq : q1 = 2 ∧ q2 = 2 ∧ 2 < n
      · rw [if_pos ⟨by omega, ⟨by omega, hq.1⟩, hq.2.2, hq.2.1⟩, if_pos hq]
      · rw [if_neg (fun h => hq ⟨h.2.1.2, h.2.2.2, h.2.2.1⟩), if_neg (fun h => by omega), if_neg hq]
    rw [dn]
    generalize hr : a * 4096 + x * 64 + y = r
    by_cases hn3 : n < 3
    · rw [if_pos hn3, err_pair (if_neg (fun h => by omega))]
    · rw [if_neg hn3]
      by_cases hall : q1 = 2 ∧ q2 = 2 ∧ 2 < n
      · rw [if_pos hall]
        by_cases hr2 : 2048 ≤ r ∧ (r < 55296 ∨ 57344 ≤ r)
        · rw [if_pos (show r ≥ 2048 ∧ (r < 55296 ∨ (57344 ≤ r ∧ r ≤ 1114111)) by omega), ok_pair (Or.inl (by omega)), if_pos]
          refine ⟨by simp [scalarN]; omega, ?_⟩
          rw [← hr, enc3 hx hy (by omega) (by omega), ea, e1, e2, hall.1, hall.2.1]
        · rw [if_neg (show ¬ (r ≥ 2048 ∧ (r < 55296 ∨ (57344 ≤ r ∧ r ≤ 1114111))) by omega), err_pair rfl, if_neg]
          rintro ⟨hs, he⟩
          have hl := congrArg List.length he
          rw [encN_len] at hl
          simp only [scalarN, Bool.or_eq_true, Bool.and_eq_true, decide_eq_true_eq] at hs
          simp only [List.length_cons, List.length_nil] at hl
          repeat' split at hl
          all_goals omega
      · rw [if_neg hall, err_pair rfl, if_neg]
        rintro ⟨hs, he⟩
        have hl := congrArg List.length he
        rw [encN_len] at hl
        simp only [List.length_cons, List.length_nil] at hl
        have hbig : 2048 ≤ r := by
          repeat' split at hl
          all_goals omega
        rw [← hr, enc3 hx hy (by omega) (by omega)] at he
        simp only [List.cons.injEq, and_true] at he
        omega
  by_cases k2 : 192 ≤ b 0
  · obtain ⟨a, ea⟩ : ∃ a, b 0 = 192 + a := ⟨b 0 - 192, by omega⟩
    have e : rN (b 0) = 2 := by unfold rN; rw [if_neg k4, if_neg k3, if_pos k2]
    have ac : accB b (2 - 1) = a * 64 + x := by
      simp only [accB, rB, if_neg k4, if_neg k3, if_pos k2, m1]; omega
    rw [e, ac, c2]
    have dn : Lib.decodeN n (b 0) (b 1) (b 2) (b 3) = if q1 = 2 ∧ 1 < n then (if a * 64 + x ≥ 128 then (a * 64 + x, 2) else (65533, 1)) else (65533, 1) := by
      unfold Lib.decodeN
      rw [if_neg (by omega), d1, m1, show b 0 % 32 = a by omega]
      by_cases hq : q1 = 2 ∧ 1 < n
      · rw [if_pos ⟨by omega, hq.2, hq.1⟩, if_pos hq]
      · rw [if_neg (fun h => hq ⟨h.2.2, h.2.1⟩), if_neg (fun h => by omega), if_neg (fun h => by omega), if_neg hq]
    rw [dn]
    generalize hr : a * 64 + x = r
    by_cases hn2 : n < 2
    · rw [if_pos hn2, err_pair (if_neg (fun h => by omega))]
    · rw [if_neg hn2]
      by_cases hall : q1 = 2 ∧ 1 < n
      · rw [if_pos hall]
        by_cases hr2 : 128 ≤ r
        · rw [if_pos (show r ≥ 128 by omega), ok_pair (Or.inl (by omega)), if_pos]
          refine ⟨by simp [scalarN]; omega, ?_⟩
          rw [← hr, enc2 hx (by omega) (by omega), ea, e1, hall.1]
        · rw [if_neg (show ¬ r ≥ 128 by omega), err_pair rfl, if_neg]
          rintro ⟨hs, he⟩
          have hl := congrArg List.length he
          rw [encN_len] at hl
          simp only [List.length_cons, List.length_nil] at hl
          repeat' split at hl
          all_goals omega
      · rw [if_neg hall, err_pair rfl, if_neg]
        rintro ⟨hs, he⟩
        have hl := congrArg List.length he
        rw [encN_len] at hl
        simp only [List.length_cons, List.length_nil] at hl
        have hbig : 128 ≤ r := by
          repeat' split at hl
          all_goals omega
        rw [← hr, enc2 hx (by omega) (by omega)] at he
        simp only [List.cons.injEq, and_true] at he
        omega
  · have e : rN (b 0) = 1 := by unfold rN; rw [if_neg k4, if_neg k3, if_neg k2]
    have ac : accB b (1 - 1) = b 0 := by
      show rB (b 0) = b 0
      unfold rB; rw [if_neg k4, if_neg k3, if_neg k2]
    rw [e, ac, c1, if_neg (by omega)]
    by_cases k1 : b 0 < 128
    · have dn : Lib.decodeN n (b 0) (b 1) (b 2) (b 3) = (b 0, 1) := by unfold Lib.decodeN; rw [if_pos k1]
      rw [dn, ok_pair (Or.inr (by omega)), if_pos]
      exact ⟨by simp [scalarN]; omega, by unfold encN; rw [if_pos k1]⟩
    · have dn : Lib.decodeN n (b 0) (b 1) (b 2) (b 3) = (65533, 1) := by
        unfold Lib.decodeN; rw [if_neg k1, if_neg (by omega), if_neg (by omega), if_neg (by omega)]
      rw [dn, err_pair rfl, if_neg]
      rintro ⟨hs, he⟩
      have hl : (encN (b 0)).length = 1 := congrArg List.length he
      rw [encN_len] at hl
      repeat' split at hl
      all_goals omega

/-! ### The walks -/
/-- Byte i of a text; 0 behind its end. -/
def bAt (s : ByteArray) (i : Nat) : Nat := if h : i < s.size then (s[i]'h).toNat else 0
theorem bAt_eq (s : ByteArray) (i : Nat) (h : i < s.size) : (s[i]'h).toNat = bAt s i := by unfold bAt; rw [dif_pos h]
theorem bAt_lt (s : ByteArray) (i : Nat) : bAt s i < 256 := by
  unfold bAt; split
  · exact UInt8.toNat_lt _
  · omega
set_option maxRecDepth 100000 in
theorem Scalar_calls (r : Nat) (w : World) (h : r < 2147483648) :
    Calls Tryz.prog 114 #[.int .i32 (r : Int)] w fun e w' => e = .returned (.bool (scalarN r)) ∧ w' = w := by
  go_enter Tryz.func114, Tryz.ntmps114
  go_wp2
  all_goals
    go_ret
    exact ⟨ret_bool (by rw [Bool.eq_iff_iff]; simp [scalarN] <;> omega), rfl⟩
def encS (r : Nat) : ByteArray := ⟨((encN r).map UInt8.ofNat).toArray⟩
theorem conv_lit (w : World) (xs : List Int) (n c : Nat) (hn : xs.length = n) (cs : Array Value) (hcs : cs = (xs.map (Value.int .u8)).toArray) :
    (convert 104 9 (.slice (some ⟨w.heap.size, 0, none⟩) n c)).run Tryz.prog (w.alloc (.cells cs 5)) = .ok (.string (strOfNums xs)) (w.alloc (.cells cs 5)) :=
  run_convert_bytes_arg _ _ 5 Tryz.underlying104 Tryz.underlying5 _ 0 n c xs hn (fun i hi => by
    subst hcs
    rw [Nat.zero_add]
    refine cellB (heap_alloc_new w _) i ?_
    have hi' : i < xs.length := by omega
    simp [hi', List.getD]) _ Tryz.underlying9
@[go_sem] theorem conv_lit1 (w : World) (a : Int) (c : Nat) :
    (convert 104 9 (.slice (some ⟨w.heap.size, 0, none⟩) 1 c)).run Tryz.prog (w.alloc (.cells #[.int .u8 a] 5)) = .ok (.string (strOfNums [a])) (w.alloc (.cells #[.int .u8 a] 5)) := conv_lit w [a] 1 c rfl _ rfl
@[go_sem] theorem conv_lit2 (w : World) (a b : Int) (c : Nat) :
    (convert 104 9 (.slice (some ⟨w.heap.size, 0, none⟩) 2 c)).run Tryz.prog (w.alloc (.cells #[.int .u8 a, .int .u8 b] 5)) = .ok (.string (strOfNums [a, b])) (w.alloc (.cells #[.int .u8 a, .int .u8 b] 5)) := conv_lit w [a, b] 2 c rfl _ rfl
@[go_sem] theorem conv_lit3 (w : World) (a b d : Int) (c : Nat) :
    (convert 104 9 (.slice (some ⟨w.heap.size, 0, none⟩) 3 c)).run Tryz.prog (w.alloc (.cells #[.int .u8 a, .int .u8 b, .int .u8 d] 5)) = .ok (.string (strOfNums [a, b, d])) (w.alloc (.cells #[.int .u8 a, .int .u8 b, .int .u8 d] 5)) := conv_lit w [a, b, d] 3 c rfl _ rfl
@[go_sem] theorem conv_lit4 (w : World) (a b d e : Int) (c : Nat) :
    (convert 104 9 (.slice (some ⟨w.heap.size, 0, none⟩) 4 c)).run Tryz.prog (w.alloc (.cells #[.int .u8 a, .int .u8 b, .int .u8 d, .int .u8 e] 5)) = .ok (.string (strOfNums [a, b, d, e])) (w.alloc (.cells #[.int .u8 a, .int .u8 b, .int .u8 d, .int .u8 e] 5)) := conv_lit w [a, b, d, e] 4 c rfl _ rfl
theorem encS_of {r : Nat} {xs : List Int} (h : xs = (encN r).map Int.ofNat) : strOfNums xs = encS r := by
  subst h
  unfold strOfNums encS
  congr 2
  simp
theorem encJ1 {n : Nat} {r : Int} (hr : (n : Int) = r) (h1 : r < 128) : [r] = (encN n).map Int.ofNat := by
  subst hr; unfold encN; rw [if_pos (by omega)]; simp
theorem encJ2 {n : Nat} {r : Int} (hr : (n : Int) = r) (h1 : 128 ≤ r) (h2 : r < 2048) : [192 + r / 64, 128 + r % 64] = (encN n).map Int.ofNat := by
  subst hr; unfold encN; rw [if_neg (by omega), if_pos (by omega)]; simp
theorem encJ3 {n : Nat} {r : Int} (hr : (n : Int) = r) (h1 : 2048 ≤ r) (h2 : r < 65536) : [224 + r / 4096, 128 + r / 64 % 64, 128 + r % 64] = (encN n).map Int.ofNat := by
  subst hr; unfold encN; rw [if_neg (by omega), if_neg (by omega), if_pos (by omega)]; simp
theorem encJ4 {n : Nat} {r : Int} (hr : (n : Int) = r) (h1 : 65536 ≤ r) : [240 + r / 262144, 128 + r / 4096 % 64, 128 + r / 64 % 64, 128 + r % 64] = (encN n).map Int.ofNat := by
  subst hr; unfold encN; rw [if_neg (by omega), if_neg (by omega), if_neg (by omega)]; simp
theorem encI {r : Int} (h0 : 0 ≤ r) : ((r.toNat : Nat) : Int) = r := Int.toNat_of_nonneg h0
set_option maxRecDepth 100000 in
set_option maxHeartbeats 1000000 in
theorem Encode_calls (r : Int) (w : World) (h0 : 0 ≤ r) (h : r ≤ 1114111) :
    Calls Tryz.prog 115 #[.int .i32 r] w fun e w' => e = .returned (.string (encS r.toNat)) ∧ Below w.heap.size w w' := by
  have hr := encI h0
  generalize r.toNat = n at hr
  go_enter Tryz.func115, Tryz.ntmps115
  go_wp2_with fail
  all_goals
    go_ret
    refine ⟨ret_str (encS_of ?_), (by repeat (first | assumption | exact Below.refl _ _ | apply Below.drew | apply below_drewN | apply balloc | (refine Below.setCell ?_ (by first | omega | (simp <;> omega)) _)))⟩
    first | exact encJ1 hr (by assumption) | exact encJ2 hr (by assumption) (by assumption) | exact encJ3 hr (by assumption) (by assumption) | exact encJ4 hr (by assumption)

end Go.Proofs.YtibopkodoidjoaaGreatDoor

/- The reference's UTF-8: first, decode, Breaks, Utf8. -/
namespace Go.Proofs.YtibopkodoidjoaaGreatDoor
open Go Go.RowKit

theorem accB_bd (b : Nat → Nat) (hb : ∀ i, b i < 256) : ∀ j, accB b j + 1 ≤ (rB (b 0) + 1) * 64 ^ j
  | 0 => by simp [accB]
  | j + 1 => by
    have := accB_bd b hb j
    rw [accB, Nat.pow_succ]
    have h3 : b (j + 1) % 64 < 64 := Nat.mod_lt _ (by decide)
    have h4 : (accB b j + 1) * 64 ≤ (rB (b 0) + 1) * 64 ^ j * 64 := Nat.mul_le_mul_right _ this
    rw [← Nat.mul_assoc]
    omega
theorem rN_cases (b : Nat) (h : b < 256) : (b < 192 ∧ rN b = 1 ∧ rB b = b) ∨ (192 ≤ b ∧ b < 224 ∧ rN b = 2 ∧ rB b = b - 192) ∨ (224 ≤ b ∧ b < 240 ∧ rN b = 3 ∧ rB b = b - 224) ∨ (240 ≤ b ∧ rN b = 4 ∧ rB b = b - 240) := by
  unfold rN rB
  repeat' split
  all_goals omega
theorem accB_bd2 (b : Nat → Nat) (hb : ∀ i, b i < 256) (j : Nat) (hj : j < rN (b 0)) : accB b j ≤ 4194303 := by
  have h := accB_bd b hb j
  rcases rN_cases (b 0) (hb 0) with ⟨h1, h2, h3⟩ | ⟨h0, h1, h2, h3⟩ | ⟨h0, h1, h2, h3⟩ | ⟨h1, h2, h3⟩
  all_goals
    rw [h2] at hj
    rw [h3] at h
    have := hb 0
    rcases (show j = 0 ∨ j = 1 ∨ j = 2 ∨ j = 3 by omega) with rfl | rfl | rfl | rfl
    all_goals simp at h
    all_goals omega
theorem scalarN_le {r : Nat} (h : scalarN r = true) : r ≤ 1114111 := by
  simp [scalarN] at h; omega
def firR (s : ByteArray) (i n : Int) (r : Nat) : Int × Int := if scalarN r = true ∧ (encS r).toList = (s.extract i.toNat (i + n).toNat).toList then ((r : Int), n) else (0, 0)
set_option maxHeartbeats 1000000 in
set_option maxRecDepth 100000 in
theorem first_1 (s : ByteArray) (i : Int) (x : Int) (c acc : Nat → Nat) (w : World) (hs : (s.size : Int) ≤ 140737488351232) (h0 : 0 ≤ i) (h1 : i < (s.size : Int)) (hx : ∀ h, ((s[i.toNat]'h).toNat : Int) = x)
    (hc0 : 0 ≤ x) (hc : x < 192) (hn : i + 1 ≤ (s.size : Int))
    (hcx : ∀ (j : Nat) (_ : j < 1) (h), ((s[(i + (j : Int)).toNat]'h).toNat : Int) = (c j : Int)) (hcl : ∀ j, c j < 256)
    (ha0 : (acc 0 : Int) = x) (haS : ∀ j, j + 1 < 1 → acc (j + 1) = acc j * 64 + c (j + 1) % 64) (hab : ∀ j, j < 1 → acc j ≤ 4194303) :
    Calls Tryz.prog 93 #[.string s, .int .i64 i] w fun e w' => e = .returned (.tuple #[.int .i32 (firR s i 1 (acc (1 - 1))).1, .int .i64 (firR s i 1 (acc (1 - 1))).2]) ∧ Below w.heap.size w w' := by
  obtain ⟨R, hR⟩ : ∃ R, R = firR s i 1 (acc (1 - 1)) := ⟨_, rfl⟩
  rw [← hR]
  replace hR := Lib.hid hR
  replace hcx := Lib.hid hcx
  replace hcl := Lib.hid hcl
  replace ha0 := Lib.hid ha0
  replace haS := Lib.hid haS
  replace hab := Lib.hid hab
  go_enter Tryz.func93, Tryz.ntmps93
  (go_wp2_with fail; repeat (any_goals (go_quiet (fail); go_wp2_with fail)))
  go_loopg [8, 9] 4 (fun kq v8 v9 w' => ∃ j : Nat, 1 ≤ j ∧ j ≤ 1 ∧ kq + j = 5 ∧ v9 = .int .i64 (j : Int) ∧ v8 = .int .i32 ((acc (j - 1) : Nat) : Int) ∧ Below w.heap.size w w')
  case atStart => exact ⟨1, by decide, by decide, by decide, rfl, by rw [ha0.out], Below.refl _ _⟩
  case round =>
    obtain ⟨j, hj1, hjn, hkq, rfl, rfl, hB⟩ := hrel
    have b1 := hab.out (j - 1) (by omega)
    by_cases hjl : j < 1
    · try (exfalso; omega)
      all_goals
        have hz := hcx.out j hjl
        have hy := hcl.out j
        have b2 := hab.out j hjl
        have hS := haS.out (j - 1) (by omega)
        rw [show j - 1 + 1 = j by omega] at hS
        (go_wp2_with fail; repeat (any_goals (go_quiet (fail); go_wp2_with fail)))
        go_roundg (4 - j)
        case measure => omega
        case rel => exact ⟨j + 1, by omega, by omega, by omega, by simp, by simp [hS], by assumption⟩
    · obtain rfl : j = 1 := by omega
      clear hjl hj1 hjn hkq
      have S1 := Lib.hid (fun w => Scalar_calls (acc (1 - 1)) w (by omega))
      generalize acc (1 - 1) = r at *
      by_cases hsc : scalarN r = true
      · have hr2 := scalarN_le hsc
        have E1 := fun w => Encode_calls (r : Int) w (by omega) (by omega)
        rw [Int.toNat_natCast] at E1
        have E1 := Lib.hid E1
        clear hr2
        generalize hes : encS r = es at *
        replace hes := Lib.hid hes
        (go_wp2_with fail; repeat (any_goals (go_quiet (fail); go_wp2_with fail)))
        refine (S1.out _).mono ?_
        rintro e w2 ⟨rfl, rfl⟩
        (go_wp2_with fail; repeat (any_goals (go_quiet (fail); go_wp2_with fail)))
        have hs1 : i ≤ i + 1 := by omega
        have hs2 : 0 ≤ i + 1 := by omega
        have hs3 : IntKind.i64.wrap (i + 1) = i + 1 := by simp [IntKind.wrap, IntKind.signed, IntKind.bits]; omega
        go_region_held3 (fun w' => Below w.heap.size w w') (exact (by repeat (first | assumption | exact Below.refl _ _ | apply Below.drew | apply below_drewN | apply balloc | (refine Below.setCell ?_ (by first | omega | (simp <;> omega)) _)))) (first | (go_at_call 115; refine (E1.out _).mono ?_; rintro e w8 ⟨rfl, hb⟩; have hb8 : Below w.heap.size w w8 := bcall (by repeat (first | assumption | exact Below.refl _ _ | apply Below.drew | apply below_drewN | apply balloc | (refine Below.setCell ?_ (by first | omega | (simp <;> omega)) _))) hb; clear hb))
        (go_wp2_with fail; repeat (any_goals (go_quiet (fail); go_wp2_with fail)))
        · have hne : ¬ (encS r).toList = (s.extract i.toNat (i + 1).toNat).toList := by
            rename_i h
            rw [hes.out]
            intro he
            rw [he] at h
            simp at h
          have hR := hR.out
          rw [firR, if_neg (fun h => hne h.2)] at hR
          subst hR
          go_ret2
          exact ⟨rfl, (by repeat (first | assumption | exact Below.refl _ _ | apply Below.drew | apply below_drewN | apply balloc | (refine Below.setCell ?_ (by first | omega | (simp <;> omega)) _)))⟩
        · have he : (encS r).toList = (s.extract i.toNat (i + 1).toNat).toList := by
            rename_i h
            rw [hes.out]
            simpa using h
          have hR := hR.out
          rw [firR, if_pos ⟨hsc, he⟩] at hR
          subst hR
          go_ret2
          exact ⟨rfl, (by repeat (first | assumption | exact Below.refl _ _ | apply Below.drew | apply below_drewN | apply balloc | (refine Below.setCell ?_ (by first | omega | (simp <;> omega)) _)))⟩
      · (go_wp2_with fail; repeat (any_goals (go_quiet (fail); go_wp2_with fail)))
        refine (S1.out _).mono ?_
        rintro e w2 ⟨rfl, rfl⟩
        (go_wp2_with fail; repeat (any_goals (go_quiet (fail); go_wp2_with fail)))
        have hR := hR.out
        rw [firR, if_neg (fun h => hsc h.1)] at hR
        subst hR
        go_ret2
        exact ⟨rfl, (by repeat (first | assumption | exact Below.refl _ _ | apply Below.drew | apply below_drewN | apply balloc | (refine Below.setCell ?_ (by first | omega | (simp <;> omega)) _)))⟩
set_option maxHeartbeats 1000000 in
set_option maxRecDepth 100000 in
theorem first_2 (s : ByteArray) (i : Int) (x : Int) (c acc : Nat → Nat) (w : World) (hs : (s.size : Int) ≤ 140737488351232) (h0 : 0 ≤ i) (h1 : i < (s.size : Int)) (hx : ∀ h, ((s[i.toNat]'h).toNat : Int) = x)
    (hc0 : 192 ≤ x) (hc : x < 224) (hn : i + 2 ≤ (s.size : Int))
    (hcx : ∀ (j : Nat) (_ : j < 2) (h), ((s[(i + (j : Int)).toNat]'h).toNat : Int) = (c j : Int)) (hcl : ∀ j, c j < 256)
    (ha0 : (acc 0 : Int) = x - 192) (haS : ∀ j, j + 1 < 2 → acc (j + 1) = acc j * 64 + c (j + 1) % 64) (hab : ∀ j, j < 2 → acc j ≤ 4194303) :
    Calls Tryz.prog 93 #[.string s, .int .i64 i] w fun e w' => e = .returned (.tuple #[.int .i32 (firR s i 2 (acc (2 - 1))).1, .int .i64 (firR s i 2 (acc (2 - 1))).2]) ∧ Below w.heap.size w w' := by
  obtain ⟨R, hR⟩ : ∃ R, R = firR s i 2 (acc (2 - 1)) := ⟨_, rfl⟩
  rw [← hR]
  replace hR := Lib.hid hR
  replace hcx := Lib.hid hcx
  replace hcl := Lib.hid hcl
  replace ha0 := Lib.hid ha0
  replace haS := Lib.hid haS
  replace hab := Lib.hid hab
  go_enter Tryz.func93, Tryz.ntmps93
  (go_wp2_with fail; repeat (any_goals (go_quiet (fail); go_wp2_with fail)))
  go_loopg [8, 9] 4 (fun kq v8 v9 w' => ∃ j : Nat, 1 ≤ j ∧ j ≤ 2 ∧ kq + j = 5 ∧ v9 = .int .i64 (j : Int) ∧ v8 = .int .i32 ((acc (j - 1) : Nat) : Int) ∧ Below w.heap.size w w')
  case atStart => exact ⟨1, by decide, by decide, by decide, rfl, by rw [ha0.out], Below.refl _ _⟩
  case round =>
    obtain ⟨j, hj1, hjn, hkq, rfl, rfl, hB⟩ := hrel
    have b1 := hab.out (j - 1) (by omega)
    by_cases hjl : j < 2
    · try (exfalso; omega)
      all_goals
        have hz := hcx.out j hjl
        have hy := hcl.out j
        have b2 := hab.out j hjl
        have hS := haS.out (j - 1) (by omega)
        rw [show j - 1 + 1 = j by omega] at hS
        (go_wp2_with fail; repeat (any_goals (go_quiet (fail); go_wp2_with fail)))
        go_roundg (4 - j)
        case measure => omega
        case rel => exact ⟨j + 1, by omega, by omega, by omega, by simp, by simp [hS], by assumption⟩
    · obtain rfl : j = 2 := by omega
      clear hjl hj1 hjn hkq
      have S1 := Lib.hid (fun w => Scalar_calls (acc (2 - 1)) w (by omega))
      generalize acc (2 - 1) = r at *
      by_cases hsc : scalarN r = true
      · have hr2 := scalarN_le hsc
        have E1 := fun w => Encode_calls (r : Int) w (by omega) (by omega)
        rw [Int.toNat_natCast] at E1
        have E1 := Lib.hid E1
        clear hr2
        generalize hes : encS r = es at *
        replace hes := Lib.hid hes
        (go_wp2_with fail; repeat (any_goals (go_quiet (fail); go_wp2_with fail)))
        refine (S1.out _).mono ?_
        rintro e w2 ⟨rfl, rfl⟩
        (go_wp2_with fail; repeat (any_goals (go_quiet (fail); go_wp2_with fail)))
        have hs1 : i ≤ i + 2 := by omega
        have hs2 : 0 ≤ i + 2 := by omega
        have hs3 : IntKind.i64.wrap (i + 2) = i + 2 := by simp [IntKind.wrap, IntKind.signed, IntKind.bits]; omega
        go_region_held3 (fun w' => Below w.heap.size w w') (exact (by repeat (first | assumption | exact Below.refl _ _ | apply Below.drew | apply below_drewN | apply balloc | (refine Below.setCell ?_ (by first | omega | (simp <;> omega)) _)))) (first | (go_at_call 115; refine (E1.out _).mono ?_; rintro e w8 ⟨rfl, hb⟩; have hb8 : Below w.heap.size w w8 := bcall (by repeat (first | assumption | exact Below.refl _ _ | apply Below.drew | apply below_drewN | apply balloc | (refine Below.setCell ?_ (by first | omega | (simp <;> omega)) _))) hb; clear hb))
        (go_wp2_with fail; repeat (any_goals (go_quiet (fail); go_wp2_with fail)))
        · have hne : ¬ (encS r).toList = (s.extract i.toNat (i + 2).toNat).toList := by
            rename_i h
            rw [hes.out]
            intro he
            rw [he] at h
            simp at h
          have hR := hR.out
          rw [firR, if_neg (fun h => hne h.2)] at hR
          subst hR
          go_ret2
          exact ⟨rfl, (by repeat (first | assumption | exact Below.refl _ _ | apply Below.drew | apply below_drewN | apply balloc | (refine Below.setCell ?_ (by first | omega | (simp <;> omega)) _)))⟩
        · have he : (encS r).toList = (s.extract i.toNat (i + 2).toNat).toList := by
            rename_i h
            rw [hes.out]
            simpa using h
          have hR := hR.out
          rw [firR, if_pos ⟨hsc, he⟩] at hR
          subst hR
          go_ret2
          exact ⟨rfl, (by repeat (first | assumption | exact Below.refl _ _ | apply Below.drew | apply below_drewN | apply balloc | (refine Below.setCell ?_ (by first | omega | (simp <;> omega)) _)))⟩
      · (go_wp2_with fail; repeat (any_goals (go_quiet (fail); go_wp2_with fail)))
        refine (S1.out _).mono ?_
        rintro e w2 ⟨rfl, rfl⟩
        (go_wp2_with fail; repeat (any_goals (go_quiet (fail); go_wp2_with fail)))
        have hR := hR.out
        rw [firR, if_neg (fun h => hsc h.1)] at hR
        subst hR
        go_ret2
        exact ⟨rfl, (by repeat (first | assumption | exact Below.refl _ _ | apply Below.drew | apply below_drewN | apply balloc | (refine Below.setCell ?_ (by first | omega | (simp <;> omega)) _)))⟩
set_option maxHeartbeats 1000000 in
set_option maxRecDepth 100000 in
theorem first_3 (s : ByteArray) (i : Int) (x : Int) (c acc : Nat → Nat) (w : World) (hs : (s.size : Int) ≤ 140737488351232) (h0 : 0 ≤ i) (h1 : i < (s.size : Int)) (hx : ∀ h, ((s[i.toNat]'h).toNat : Int) = x)
    (hc0 : 224 ≤ x) (hc : x < 240) (hn : i + 3 ≤ (s.size : Int))
    (hcx : ∀ (j : Nat) (_ : j < 3) (h), ((s[(i + (j : Int)).toNat]'h).toNat : Int) = (c j : Int)) (hcl : ∀ j, c j < 256)
    (ha0 : (acc 0 : Int) = x - 224) (haS : ∀ j, j + 1 < 3 → acc (j + 1) = acc j * 64 + c (j + 1) % 64) (hab : ∀ j, j < 3 → acc j ≤ 4194303) :
    Calls Tryz.prog 93 #[.string s, .int .i64 i] w fun e w' => e = .returned (.tuple #[.int .i32 (firR s i 3 (acc (3 - 1))).1, .int .i64 (firR s i 3 (acc (3 - 1))).2]) ∧ Below w.heap.size w w' := by
  obtain ⟨R, hR⟩ : ∃ R, R = firR s i 3 (acc (3 - 1)) := ⟨_, rfl⟩
  rw [← hR]
  replace hR := Lib.hid hR
  replace hcx := Lib.hid hcx
  replace hcl := Lib.hid hcl
  replace ha0 := Lib.hid ha0
  replace haS := Lib.hid haS
  replace hab := Lib.hid hab
  go_enter Tryz.func93, Tryz.ntmps93
  (go_wp2_with fail; repeat (any_goals (go_quiet (fail); go_wp2_with fail)))
  go_loopg [8, 9] 4 (fun kq v8 v9 w' => ∃ j : Nat, 1 ≤ j ∧ j ≤ 3 ∧ kq + j = 5 ∧ v9 = .int .i64 (j : Int) ∧ v8 = .int .i32 ((acc (j - 1) : Nat) : Int) ∧ Below w.heap.size w w')
  case atStart => exact ⟨1, by decide, by decide, by decide, rfl, by rw [ha0.out], Below.refl _ _⟩
  case round =>
    obtain ⟨j, hj1, hjn, hkq, rfl, rfl, hB⟩ := hrel
    have b1 := hab.out (j - 1) (by omega)
    by_cases hjl : j < 3
    · try (exfalso; omega)
      all_goals
        have hz := hcx.out j hjl
        have hy := hcl.out j
        have b2 := hab.out j hjl
        have hS := haS.out (j - 1) (by omega)
        rw [show j - 1 + 1 = j by omega] at hS
        (go_wp2_with fail; repeat (any_goals (go_quiet (fail); go_wp2_with fail)))
        go_roundg (4 - j)
        case measure => omega
        case rel => exact ⟨j + 1, by omega, by omega, by omega, by simp, by simp [hS], by assumption⟩
    · obtain rfl : j = 3 := by omega
      clear hjl hj1 hjn hkq
      have S1 := Lib.hid (fun w => Scalar_calls (acc (3 - 1)) w (by omega))
      generalize acc (3 - 1) = r at *
      by_cases hsc : scalarN r = true
      · have hr2 := scalarN_le hsc
        have E1 := fun w => Encode_calls (r : Int) w (by omega) (by omega)
        rw [Int.toNat_natCast] at E1
        have E1 := Lib.hid E1
        clear hr2
        generalize hes : encS r = es at *
        replace hes := Lib.hid hes
        (go_wp2_with fail; repeat (any_goals (go_quiet (fail); go_wp2_with fail)))
        refine (S1.out _).mono ?_
        rintro e w2 ⟨rfl, rfl⟩
        (go_wp2_with fail; repeat (any_goals (go_quiet (fail); go_wp2_with fail)))
        have hs1 : i ≤ i + 3 := by omega
        have hs2 : 0 ≤ i + 3 := by omega
        have hs3 : IntKind.i64.wrap (i + 3) = i + 3 := by simp [IntKind.wrap, IntKind.signed, IntKind.bits]; omega
        go_region_held3 (fun w' => Below w.heap.size w w') (exact (by repeat (first | assumption | exact Below.refl _ _ | apply Below.drew | apply below_drewN | apply balloc | (refine Below.setCell ?_ (by first | omega | (simp <;> omega)) _)))) (first | (go_at_call 115; refine (E1.out _).mono ?_; rintro e w8 ⟨rfl, hb⟩; have hb8 : Below w.heap.size w w8 := bcall (by repeat (first | assumption | exact Below.refl _ _ | apply Below.drew | apply below_drewN | apply balloc | (refine Below.setCell ?_ (by first | omega | (simp <;> omega)) _))) hb; clear hb))
        (go_wp2_with fail; repeat (any_goals (go_quiet (fail); go_wp2_with fail)))
        · have hne : ¬ (encS r).toList = (s.extract i.toNat (i + 3).toNat).toList := by
            rename_i h
            rw [hes.out]
            intro he
            rw [he] at h
            simp at h
          have hR := hR.out
          rw [firR, if_neg (fun h => hne h.2)] at hR
          subst hR
          go_ret2
          exact ⟨rfl, (by repeat (first | assumption | exact Below.refl _ _ | apply Below.drew | apply below_drewN | apply balloc | (refine Below.setCell ?_ (by first | omega | (simp <;> omega)) _)))⟩
        · have he : (encS r).toList = (s.extract i.toNat (i + 3).toNat).toList := by
            rename_i h
            rw [hes.out]
            simpa using h
          have hR := hR.out
          rw [firR, if_pos ⟨hsc, he⟩] at hR
          subst hR
          go_ret2
          exact ⟨rfl, (by repeat (first | assumption | exact Below.refl _ _ | apply Below.drew | apply below_drewN | apply balloc | (refine Below.setCell ?_ (by first | omega | (simp <;> omega)) _)))⟩
      · (go_wp2_with fail; repeat (any_goals (go_quiet (fail); go_wp2_with fail)))
        refine (S1.out _).mono ?_
        rintro e w2 ⟨rfl, rfl⟩
        (go_wp2_with fail; repeat (any_goals (go_quiet (fail); go_wp2_with fail)))
        have hR := hR.out
        rw [firR, if_neg (fun h => hsc h.1)] at hR
        subst hR
        go_ret2
        exact ⟨rfl, (by repeat (first | assumption | exact Below.refl _ _ | apply Below.drew | apply below_drewN | apply balloc | (refine Below.setCell ?_ (by first | omega | (simp <;> omega)) _)))⟩
set_option maxHeartbeats 1000000 in
set_option maxRecDepth 100000 in
theorem first_4 (s : ByteArray) (i : Int) (x : Int) (c acc : Nat → Nat) (w : World) (hs : (s.size : Int) ≤ 140737488351232) (h0 : 0 ≤ i) (h1 : i < (s.size : Int)) (hx : ∀ h, ((s[i.toNat]'h).toNat : Int) = x)
    (hc0 : 240 ≤ x) (hc : x < 256) (hn : i + 4 ≤ (s.size : Int))
    (hcx : ∀ (j : Nat) (_ : j < 4) (h), ((s[(i + (j : Int)).toNat]'h).toNat : Int) = (c j : Int)) (hcl : ∀ j, c j < 256)
    (ha0 : (acc 0 : Int) = x - 240) (haS : ∀ j, j + 1 < 4 → acc (j + 1) = acc j * 64 + c (j + 1) % 64) (hab : ∀ j, j < 4 → acc j ≤ 4194303) :
    Calls Tryz.prog 93 #[.string s, .int .i64 i] w fun e w' => e = .returned (.tuple #[.int .i32 (firR s i 4 (acc (4 - 1))).1, .int .i64 (firR s i 4 (acc (4 - 1))).2]) ∧ Below w.heap.size w w' := by
  obtain ⟨R, hR⟩ : ∃ R, R = firR s i 4 (acc (4 - 1)) := ⟨_, rfl⟩
  rw [← hR]
  replace hR := Lib.hid hR
  replace hcx := Lib.hid hcx
  replace hcl := Lib.hid hcl
  replace ha0 := Lib.hid ha0
  replace haS := Lib.hid haS
  replace hab := Lib.hid hab
  go_enter Tryz.func93, Tryz.ntmps93
  (go_wp2_with fail; repeat (any_goals (go_quiet (fail); go_wp2_with fail)))
  go_loopg [8, 9] 4 (fun kq v8 v9 w' => ∃ j : Nat, 1 ≤ j ∧ j ≤ 4 ∧ kq + j = 5 ∧ v9 = .int .i64 (j : Int) ∧ v8 = .int .i32 ((acc (j - 1) : Nat) : Int) ∧ Below w.heap.size w w')
  case atStart => exact ⟨1, by decide, by decide, by decide, rfl, by rw [ha0.out], Below.refl _ _⟩
  case round =>
    obtain ⟨j, hj1, hjn, hkq, rfl, rfl, hB⟩ := hrel
    have b1 := hab.out (j - 1) (by omega)
    by_cases hjl : j < 4
    · try (exfalso; omega)
      all_goals
        have hz := hcx.out j hjl
        have hy := hcl.out j
        have b2 := hab.out j hjl
        have hS := haS.out (j - 1) (by omega)
        rw [show j - 1 + 1 = j by omega] at hS
        (go_wp2_with fail; repeat (any_goals (go_quiet (fail); go_wp2_with fail)))
        go_roundg (4 - j)
        case measure => omega
        case rel => exact ⟨j + 1, by omega, by omega, by omega, by simp, by simp [hS], by assumption⟩
    · obtain rfl : j = 4 := by omega
      clear hjl hj1 hjn hkq
      have S1 := Lib.hid (fun w => Scalar_calls (acc (4 - 1)) w (by omega))
      generalize acc (4 - 1) = r at *
      by_cases hsc : scalarN r = true
      · have hr2 := scalarN_le hsc
        have E1 := fun w => Encode_calls (r : Int) w (by omega) (by omega)
        rw [Int.toNat_natCast] at E1
        have E1 := Lib.hid E1
        clear hr2
        generalize hes : encS r = es at *
        replace hes := Lib.hid hes
        (go_wp2_with fail; repeat (any_goals (go_quiet (fail); go_wp2_with fail)))
        refine (S1.out _).mono ?_
        rintro e w2 ⟨rfl, rfl⟩
        (go_wp2_with fail; repeat (any_goals (go_quiet (fail); go_wp2_with fail)))
        have hs1 : i ≤ i + 4 := by omega
        have hs2 : 0 ≤ i + 4 := by omega
        have hs3 : IntKind.i64.wrap (i + 4) = i + 4 := by simp [IntKind.wrap, IntKind.signed, IntKind.bits]; omega
        go_region_held3 (fun w' => Below w.heap.size w w') (exact (by repeat (first | assumption | exact Below.refl _ _ | apply Below.drew | apply below_drewN | apply balloc | (refine Below.setCell ?_ (by first | omega | (simp <;> omega)) _)))) (first | (go_at_call 115; refine (E1.out _).mono ?_; rintro e w8 ⟨rfl, hb⟩; have hb8 : Below w.heap.size w w8 := bcall (by repeat (first | assumption | exact Below.refl _ _ | apply Below.drew | apply below_drewN | apply balloc | (refine Below.setCell ?_ (by first | omega | (simp <;> omega)) _))) hb; clear hb))
        (go_wp2_with fail; repeat (any_goals (go_quiet (fail); go_wp2_with fail)))
        · have hne : ¬ (encS r).toList = (s.extract i.toNat (i + 4).toNat).toList := by
            rename_i h
            rw [hes.out]
            intro he
            rw [he] at h
            simp at h
          have hR := hR.out
          rw [firR, if_neg (fun h => hne h.2)] at hR
          subst hR
          go_ret2
          exact ⟨rfl, (by repeat (first | assumption | exact Below.refl _ _ | apply Below.drew | apply below_drewN | apply balloc | (refine Below.setCell ?_ (by first | omega | (simp <;> omega)) _)))⟩
        · have he : (encS r).toList = (s.extract i.toNat (i + 4).toNat).toList := by
            rename_i h
            rw [hes.out]
            simpa using h
          have hR := hR.out
          rw [firR, if_pos ⟨hsc, he⟩] at hR
          subst hR
          go_ret2
          exact ⟨rfl, (by repeat (first | assumption | exact Below.refl _ _ | apply Below.drew | apply below_drewN | apply balloc | (refine Below.setCell ?_ (by first | omega | (simp <;> omega)) _)))⟩
      · (go_wp2_with fail; repeat (any_goals (go_quiet (fail); go_wp2_with fail)))
        refine (S1.out _).mono ?_
        rintro e w2 ⟨rfl, rfl⟩
        (go_wp2_with fail; repeat (any_goals (go_quiet (fail); go_wp2_with fail)))
        have hR := hR.out
        rw [firR, if_neg (fun h => hsc h.1)] at hR
        subst hR
        go_ret2
        exact ⟨rfl, (by repeat (first | assumption | exact Below.refl _ _ | apply Below.drew | apply below_drewN | apply balloc | (refine Below.setCell ?_ (by first | omega | (simp <;> omega)) _)))⟩
set_option maxHeartbeats 1000000 in
set_option maxRecDepth 100000 in
theorem fshort_2 (s : ByteArray) (i : Int) (x : Int) (w : World) (hs : (s.size : Int) ≤ 140737488351232) (h0 : 0 ≤ i) (h1 : i < (s.size : Int)) (hx : ∀ h, ((s[i.toNat]'h).toNat : Int) = x)
    (hc0 : 192 ≤ x) (hc : x < 224) (hn : (s.size : Int) < i + 2) :
    Calls Tryz.prog 93 #[.string s, .int .i64 i] w fun e w' => e = .returned (.tuple #[.int .i32 0, .int .i64 0]) ∧ Below w.heap.size w w' := by
  go_enter Tryz.func93, Tryz.ntmps93
  (go_wp2_with fail; repeat (any_goals (go_quiet (fail); go_wp2_with fail)))
  go_ret2
  exact ⟨rfl, (by repeat (first | assumption | exact Below.refl _ _ | apply Below.drew | apply below_drewN | apply balloc | (refine Below.setCell ?_ (by first | omega | (simp <;> omega)) _)))⟩
set_option maxHeartbeats 1000000 in
set_option maxRecDepth 100000 in
theorem fshort_3 (s : ByteArray) (i : Int) (x : Int) (w : World) (hs : (s.size : Int) ≤ 140737488351232) (h0 : 0 ≤ i) (h1 : i < (s.size : Int)) (hx : ∀ h, ((s[i.toNat]'h).toNat : Int) = x)
    (hc0 : 224 ≤ x) (hc : x < 240) (hn : (s.size : Int) < i + 3) :
    Calls Tryz.prog 93 #[.string s, .int .i64 i] w fun e w' => e = .returned (.tuple #[.int .i32 0, .int .i64 0]) ∧ Below w.heap.size w w' := by
  go_enter Tryz.func93, Tryz.ntmps93
  (go_wp2_with fail; repeat (any_goals (go_quiet (fail); go_wp2_with fail)))
  go_ret2
  exact ⟨rfl, (by repeat (first | assumption | exact Below.refl _ _ | apply Below.drew | apply below_drewN | apply balloc | (refine Below.setCell ?_ (by first | omega | (simp <;> omega)) _)))⟩
set_option maxHeartbeats 1000000 in
set_option maxRecDepth 100000 in
theorem fshort_4 (s : ByteArray) (i : Int) (x : Int) (w : World) (hs : (s.size : Int) ≤ 140737488351232) (h0 : 0 ≤ i) (h1 : i < (s.size : Int)) (hx : ∀ h, ((s[i.toNat]'h).toNat : Int) = x)
    (hc0 : 240 ≤ x) (hc : x < 256) (hn : (s.size : Int) < i + 4) :
    Calls Tryz.prog 93 #[.string s, .int .i64 i] w fun e w' => e = .returned (.tuple #[.int .i32 0, .int .i64 0]) ∧ Below w.heap.size w w' := by
  go_enter Tryz.func93, Tryz.ntmps93
  (go_wp2_with fail; repeat (any_goals (go_quiet (fail); go_wp2_with fail)))
  go_ret2
  exact ⟨rfl, (by repeat (first | assumption | exact Below.refl _ _ | apply Below.drew | apply below_drewN | apply balloc | (refine Below.setCell ?_ (by first | omega | (simp <;> omega)) _)))⟩

theorem encN_lt {r : Nat} (h : r ≤ 1114111) : ∀ x ∈ encN r, x < 256 := by
  unfold encN
  repeat' split
  all_goals
    intro x hx
    simp only [List.mem_cons, List.mem_nil_iff, or_false] at hx
    omega
theorem encS_list {r : Nat} : (encS r).toList = (encN r).map UInt8.ofNat := Lib.toList_data _
theorem extract_list (s : ByteArray) (a n : Nat) (h : a + n ≤ s.size) : (s.extract a (a + n)).toList.map UInt8.toNat = (List.range n).map (fun j => bAt s (a + j)) := by
  apply List.ext_getElem?
  intro j
  rw [Lib.toList_data, ByteArray.data_extract]
  have hl : s.data.size = s.size := rfl
  rw [List.getElem?_map, List.getElem?_map]
  by_cases hj : j < n
  · rw [List.getElem?_range hj]
    have h1 : a + j < s.size := by omega
    have h2 : j < (s.data.extract a (a + n)).toList.length := by simp; omega
    rw [List.getElem?_eq_getElem h2]
    simp only [Option.map_some, Option.some.injEq]
    rw [Array.getElem_toList, Array.getElem_extract]
    unfold bAt
    rw [dif_pos h1]
    rfl
  · rw [List.getElem?_eq_none (by simp; omega), List.getElem?_eq_none (by simp; omega)]
    rfl
theorem list_toNat_inj {l m : List UInt8} (h : l.map UInt8.toNat = m.map UInt8.toNat) : l = m :=
  List.map_inj_right (fun _ _ e => UInt8.toNat_inj.1 e) |>.1 h
theorem firR_eq (s : ByteArray) (a n r : Nat) (h : a + n ≤ s.size) :
    firR s (a : Int) (n : Int) r = if scalarN r = true ∧ encN r = (List.range n).map (fun j => bAt s (a + j)) then ((r : Int), (n : Int)) else (0, 0) := by
  unfold firR
  rw [show ((a : Int)).toNat = a by omega, show ((a : Int) + (n : Int)).toNat = a + n by omega]
  by_cases hs : scalarN r = true
  · have e : (encS r).toList = (s.extract a (a + n)).toList ↔ encN r = (List.range n).map (fun j => bAt s (a + j)) := by
      rw [encS_list, ← extract_list s a n h]
      have k : ((encN r).map UInt8.ofNat).map UInt8.toNat = encN r := by
        rw [List.map_map]
        conv => rhs; rw [← List.map_id (encN r)]
        refine List.map_congr_left fun x hx => ?_
        have := encN_lt (scalarN_le hs) x hx
        simp only [Function.comp, UInt8.toNat_ofNat', id]
        exact Nat.mod_eq_of_lt this
      constructor
      · intro h; rw [← h, k]
      · intro h; exact list_toNat_inj (by rw [k, h])
    simp only [e]
  · rw [if_neg (fun h => hs h.1), if_neg (fun h => hs h.1)]
theorem refF_pos {b : Nat → Nat} {n m : Nat} (hm : rN (b 0) = m) (h : ¬ n < m) : refF b n = if scalarN (accB b (m - 1)) = true ∧ encN (accB b (m - 1)) = (List.range m).map b then (accB b (m - 1), m) else (0, 0) := by
  unfold refF; rw [hm, if_neg h]
def castP (p : Nat × Nat) : Int × Int := ((p.1 : Int), (p.2 : Int))
theorem pair_cast {c : Prop} [Decidable c] (r n : Nat) : (if c then ((r : Int), (n : Int)) else ((0 : Int), (0 : Int))) = castP (if c then (r, n) else (0, 0)) := by
  split <;> rfl
theorem first_calls (s : ByteArray) (a : Nat) (w : World) (hs : s.size ≤ 140737488351232) (ha : a < s.size) :
    Calls Tryz.prog 93 #[.string s, .int .i64 (a : Int)] w fun e w' => e = .returned (.tuple #[.int .i32 (refF (fun j => bAt s (a + j)) (s.size - a)).1, .int .i64 (refF (fun j => bAt s (a + j)) (s.size - a)).2]) ∧ Below w.heap.size w w' := by
  have hx : ∀ h, ((s[(a : Int).toNat]'h).toNat : Int) = (bAt s a : Int) := fun h => by
    have : (a : Int).toNat = a := by omega
    simp only [this]
    rw [bAt_eq]
  have hq : ∀ (j : Nat) (h), ((s[((a : Int) + (j : Int)).toNat]'h).toNat : Int) = (bAt s (a + j) : Int) := fun j h => by
    have : (((a : Int) + (j : Int)).toNat) = a + j := by omega
    simp only [this]
    rw [bAt_eq]
  have hbd : ∀ j, j < rN (bAt s (a + 0)) → accB (fun j => bAt s (a + j)) j ≤ 4194303 := fun j hj => accB_bd2 _ (fun _ => bAt_lt _ _) j hj
  have h256 := bAt_lt s a
  rcases rN_cases (bAt s (a + 0)) (bAt_lt _ _) with ⟨h1, h2, h3⟩ | ⟨h0, h1, h2, h3⟩ | ⟨h0, h1, h2, h3⟩ | ⟨h1, h2, h3⟩
  all_goals rw [Nat.add_zero] at *
  · have e := refF_pos (b := fun j => bAt s (a + j)) (n := s.size - a) (m := 1) (by show rN (bAt s (a + 0)) = 1; rw [Nat.add_zero]; exact h2) (by omega)
    have f := firR_eq s a 1 (accB (fun j => bAt s (a + j)) (1 - 1)) (by omega)
    rw [pair_cast, ← e] at f
    have g := first_1 s (a : Int) (bAt s a : Int) (fun j => bAt s (a + j)) (accB (fun j => bAt s (a + j))) w (by omega) (by omega) (by omega) hx (by omega) (by omega) (by omega)
        (fun j _ h => hq j h) (fun j => bAt_lt _ _) (by show ((rB (bAt s (a + 0)) : Nat) : Int) = _; rw [Nat.add_zero]; omega) (fun j _ => rfl) (fun j hj => hbd j (by rw [h2]; exact hj))
    rw [show ((1 : Nat) : Int) = (1 : Int) from rfl] at f
    rw [f] at g
    exact g
  · by_cases hn : s.size - a < 2
    · have e : refF (fun j => bAt s (a + j)) (s.size - a) = (0, 0) := by unfold refF; rw [if_pos (by show s.size - a < rN (bAt s (a + 0)); rw [Nat.add_zero, h2]; exact hn)]
      rw [e]
      exact fshort_2 s (a : Int) (bAt s a : Int) w (by omega) (by omega) (by omega) hx (by omega) (by omega) (by omega)
    · have e := refF_pos (b := fun j => bAt s (a + j)) (m := 2) (by show rN (bAt s (a + 0)) = 2; rw [Nat.add_zero]; exact h2) hn
      have f := firR_eq s a 2 (accB (fun j => bAt s (a + j)) (2 - 1)) (by omega)
      rw [pair_cast, ← e] at f
      have g := first_2 s (a : Int) (bAt s a : Int) (fun j => bAt s (a + j)) (accB (fun j => bAt s (a + j))) w (by omega) (by omega) (by omega) hx (by omega) (by omega) (by omega)
        (fun j _ h => hq j h) (fun j => bAt_lt _ _) (by show ((rB (bAt s (a + 0)) : Nat) : Int) = _; rw [Nat.add_zero]; omega) (fun j _ => rfl) (fun j hj => hbd j (by rw [h2]; exact hj))
      rw [show ((2 : Nat) : Int) = (2 : Int) from rfl] at f
      rw [f] at g
      exact g
  · by_cases hn : s.size - a < 3
    · have e : refF (fun j => bAt s (a + j)) (s.size - a) = (0, 0) := by unfold refF; rw [if_pos (by show s.size - a < rN (bAt s (a + 0)); rw [Nat.add_zero, h2]; exact hn)]
      rw [e]
      exact fshort_3 s (a : Int) (bAt s a : Int) w (by omega) (by omega) (by omega) hx (by omega) (by omega) (by omega)
    · have e := refF_pos (b := fun j => bAt s (a + j)) (m := 3) (by show rN (bAt s (a + 0)) = 3; rw [Nat.add_zero]; exact h2) hn
      have f := firR_eq s a 3 (accB (fun j => bAt s (a + j)) (3 - 1)) (by omega)
      rw [pair_cast, ← e] at f
      have g := first_3 s (a : Int) (bAt s a : Int) (fun j => bAt s (a + j)) (accB (fun j => bAt s (a + j))) w (by omega) (by omega) (by omega) hx (by omega) (by omega) (by omega)
        (fun j _ h => hq j h) (fun j => bAt_lt _ _) (by show ((rB (bAt s (a + 0)) : Nat) : Int) = _; rw [Nat.add_zero]; omega) (fun j _ => rfl) (fun j hj => hbd j (by rw [h2]; exact hj))
      rw [show ((3 : Nat) : Int) = (3 : Int) from rfl] at f
      rw [f] at g
      exact g
  · by_cases hn : s.size - a < 4
    · have e : refF (fun j => bAt s (a + j)) (s.size - a) = (0, 0) := by unfold refF; rw [if_pos (by show s.size - a < rN (bAt s (a + 0)); rw [Nat.add_zero, h2]; exact hn)]
      rw [e]
      exact fshort_4 s (a : Int) (bAt s a : Int) w (by omega) (by omega) (by omega) hx (by omega) (by omega) (by omega)
    · have e := refF_pos (b := fun j => bAt s (a + j)) (m := 4) (by show rN (bAt s (a + 0)) = 4; rw [Nat.add_zero]; exact h2) hn
      have f := firR_eq s a 4 (accB (fun j => bAt s (a + j)) (4 - 1)) (by omega)
      rw [pair_cast, ← e] at f
      have g := first_4 s (a : Int) (bAt s a : Int) (fun j => bAt s (a + j)) (accB (fun j => bAt s (a + j))) w (by omega) (by omega) (by omega) hx (by omega) (by omega) (by omega)
        (fun j _ h => hq j h) (fun j => bAt_lt _ _) (by show ((rB (bAt s (a + 0)) : Nat) : Int) = _; rw [Nat.add_zero]; omega) (fun j _ => rfl) (fun j hj => hbd j (by rw [h2]; exact hj))
      rw [show ((4 : Nat) : Int) = (4 : Int) from rfl] at f
      rw [f] at g
      exact g

end Go.Proofs.YtibopkodoidjoaaGreatDoor

/- The reference's UTF-8: decode, Breaks, Utf8. -/
namespace Go.Proofs.YtibopkodoidjoaaGreatDoor
open Go Go.RowKit

theorem refF_bd (b : Nat → Nat) (n : Nat) : (refF b n).2 ≤ n ∧ (refF b n).2 ≤ 4 ∧ (refF b n).1 ≤ 1114111 := by
  unfold refF
  have h4 : rN (b 0) ≤ 4 := by
    unfold rN
    repeat' split
    all_goals omega
  by_cases h : n < rN (b 0)
  · rw [if_pos h]; simp
  · rw [if_neg h]
    split
    · rename_i k
      exact ⟨by simp only; omega, h4, scalarN_le k.1⟩
    · simp
/-- The scalar at a place, and its bytes. -/
def refAt (s : ByteArray) (a : Nat) : Nat × Nat := refF (fun j => bAt s (a + j)) (s.size - a)
/-- The scalars from a place on up to where the text breaks, and that place. -/
def refDec (s : ByteArray) : Nat → Nat → List Nat × Nat
  | 0, a => ([], a)
  | k + 1, a => if a < s.size then (if (refAt s a).2 = 0 then ([], a) else ((refAt s a).1 :: (refDec s k (a + (refAt s a).2)).1, (refDec s k (a + (refAt s a).2)).2)) else ([], a)
def i32s (l : List Nat) : List Value := l.map fun x : Nat => Value.int .i32 (x : Int)
theorem infoI32 : (Tryz.prog.info? 21).map (fun i => (i.zero, i.size, i.bytes)) = some (some (.int .i32 0), 1, 4) := by kernel_rfl
theorem own_next {w w' : World} {base e size : Nat} {v : Value} {n : Nat} {xs : List Value} (h : w.ownsRow base e size v n xs) (hb : Below w.heap.size w w') : w'.ownsRow base e size v n xs :=
  h.kept (row := none) ⟨hb.os, hb.tape, hb.output, hb.size, fun k hk _ => hb.block k hk⟩ (by cases hv : v.ownBlock <;> simp)
theorem own_lit0 {w : World} {base e size : Nat} (h : base ≤ w.heap.size) : (w.alloc (.cells #[] e)).ownsRow base e size (.slice (some ⟨w.heap.size, 0, none⟩) 0 0) 0 [] :=
  World.ownsRow_made w #[] 0 h (by decide) (by simp)
theorem brk_step {s : ByteArray} {k a : Nat} (h : a < s.size) (h0 : (refAt s a).2 ≠ 0) : refDec s (k + 1) a = ((refAt s a).1 :: (refDec s k (a + (refAt s a).2)).1, (refDec s k (a + (refAt s a).2)).2) := by
  rw [refDec, if_pos h, if_neg h0]
theorem brk_end {s : ByteArray} {k a : Nat} (h : ¬ a < s.size ∨ (refAt s a).2 = 0) : refDec s (k + 1) a = ([], a) := by
  rw [refDec]
  rcases h with h | h
  · rw [if_neg h]
  · by_cases h2 : a < s.size
    · rw [if_pos h2, if_pos h]
    · rw [if_neg h2]
set_option maxHeartbeats 1000000 in
set_option maxRecDepth 100000 in
theorem decode_calls (s : ByteArray) (w : World) (hs : s.size ≤ 35184372088830) :
    Calls Tryz.prog 75 #[.string s] w fun e w' => ∃ v, e = .returned (.tuple #[v, .int .i64 (refDec s (s.size + 1) 0).2]) ∧ w'.ownsRow w.heap.size 21 1 v (refDec s (s.size + 1) 0).1.length (i32s (refDec s (s.size + 1) 0).1) ∧ Below w.heap.size w w' := by
  have F := Lib.hid (fun a w h => first_calls s a w (by omega) h)
  obtain ⟨R, R2, hR⟩ : ∃ R R2, (R, R2) = refDec s (s.size + 1) 0 := ⟨_, _, rfl⟩
  rw [← hR]
  replace hR := Lib.hid hR
  replace hs := Lib.hid hs
  obtain ⟨i0, hi, hi2⟩ := Option.map_eq_some_iff.1 infoI32
  simp only [Prod.mk.injEq] at hi2
  obtain ⟨hz0, hz1, hz2⟩ := hi2
  replace hi := Lib.hid hi
  replace hz0 := Lib.hid hz0
  replace hz1 := Lib.hid hz1
  replace hz2 := Lib.hid hz2
  go_enter Tryz.func75, Tryz.ntmps75
  (go_wp2_with fail; repeat (any_goals (go_quiet (fail); go_wp2_with fail)))
  go_loopg [4, 5] (s.size + 1) (fun kq v4 v5 w' => ∃ (l : List Nat) (a : Nat), v5 = .int .i64 (a : Int) ∧ Hid (l ++ (refDec s kq a).1 = R ∧ (refDec s kq a).2 = R2 ∧ a ≤ s.size ∧ l.length ≤ a ∧ s.size < a + kq ∧ w'.ownsRow w.heap.size 21 1 v4 l.length (i32s l)) ∧ Below w.heap.size w w')
  case atStart => exact ⟨[], 0, rfl, Lib.hid ⟨by rw [← hR.out]; rfl, by rw [← hR.out], Nat.zero_le _, Nat.le_refl _, by omega, own_lit0 (Nat.le_refl _)⟩, (by repeat (first | assumption | exact Below.refl _ _ | apply Below.drew | apply below_drewN | apply balloc | (refine Below.setCell ?_ (by first | omega | (simp <;> omega)) _)))⟩
  case round =>
    obtain ⟨l, a, rfl, H, hB⟩ := hrel
    obtain ⟨h1, h2, h3, h4, h5, ho⟩ := H.out
    obtain ⟨kq, rfl⟩ : ∃ k, gk = k + 1 := ⟨gk - 1, by omega⟩
    have hsz := hs.out
    by_cases hlt : a < s.size
    · obtain ⟨b1, b2, b3⟩ := refF_bd (fun j => bAt s (a + j)) (s.size - a)
      have C := Lib.hid (fun w => F.out a w hlt)
      have hI : ((a : Int) < (s.size : Int)) := by omega
      by_cases h0 : (refAt s a).2 = 0
      · rw [brk_end (Or.inr h0)] at h1 h2
        simp only [List.append_nil] at h1 h2
        replace C : Hid (∀ w, Calls Tryz.prog 93 #[.string s, .int .i64 (a : Int)] w fun e w' => e = .returned (.tuple #[.int .i32 ((refAt s a).1 : Int), .int .i64 0]) ∧ Below w.heap.size w w') := Lib.hid (fun w => by
          have := C.out w
          rw [show refF (fun j => bAt s (a + j)) (s.size - a) = refAt s a from rfl, h0] at this
          exact this)
        replace ho := Lib.hid ho
        replace h1 := Lib.hid h1
        replace h2 := Lib.hid h2
        generalize (refAt s a).1 = r at *
        clear H h3 h4 h5 hsz hlt b1 b2 b3 h0
        (go_wp2_with fail; repeat (any_goals (go_quiet (fail); go_wp2_with fail)))
        refine (C.out _).mono ?_
        rintro e w1 ⟨rfl, hb⟩
        have hb1 : Below w.heap.size w w1 := bcall (by repeat (first | assumption | exact Below.refl _ _ | apply Below.drew | apply below_drewN | apply balloc | (refine Below.setCell ?_ (by first | omega | (simp <;> omega)) _))) hb
        replace ho := Lib.hid (own_next ho.out hb)
        clear hb
        (go_wp2_with fail; repeat (any_goals (go_quiet (fail); go_wp2_with fail)))
        go_ret2
        have h1 := h1.out
        have h2 := h2.out
        subst h1 h2
        exact ⟨_, rfl, ho.out, (by repeat (first | assumption | exact Below.refl _ _ | apply Below.drew | apply below_drewN | apply balloc | (refine Below.setCell ?_ (by first | omega | (simp <;> omega)) _)))⟩
      · rw [brk_step hlt h0] at h1 h2
        replace C : Hid (∀ w, Calls Tryz.prog 93 #[.string s, .int .i64 (a : Int)] w fun e w' => e = .returned (.tuple #[.int .i32 ((refAt s a).1 : Int), .int .i64 ((refAt s a).2 : Int)]) ∧ Below w.heap.size w w') := Lib.hid (fun w => C.out w)
        rw [show refF (fun j => bAt s (a + j)) (s.size - a) = refAt s a from rfl] at b1 b2 b3
        replace ho := Lib.hid ho
        replace h1 := Lib.hid h1
        replace h2 := Lib.hid h2
        generalize (refAt s a).1 = r at *
        generalize (refAt s a).2 = m at *
        have hm : ((m : Int) == 0) = false := by simp; omega
        replace h0 := Lib.hid h0
        replace h4 := Lib.hid h4
        replace h5 := Lib.hid h5
        replace h3 := Lib.hid h3
        replace b1 := Lib.hid b1
        replace b3 := Lib.hid b3
        clear H hlt
        have hw : IntKind.i64.wrap ((a : Int) + (m : Int)) = ((a + m : Nat) : Int) := by
          have := h3.out
          simp [IntKind.wrap, IntKind.signed, IntKind.bits]; omega
        (go_wp2_with fail; repeat (any_goals (go_quiet (fail); go_wp2_with fail)))
        refine (C.out _).mono ?_
        rintro e w1 ⟨rfl, hb⟩
        have hb1 : Below w.heap.size w w1 := bcall (by repeat (first | assumption | exact Below.refl _ _ | apply Below.drew | apply below_drewN | apply balloc | (refine Below.setCell ?_ (by first | omega | (simp <;> omega)) _))) hb
        replace ho := Lib.hid (own_next ho.out hb)
        clear hb
        have hsz1 := hb1.size
        go_wp2_with (at_builtin; refine wpList_append_own _ rfl _ _ 152 rfl w.heap.size 21 i0 (.int .i32 0) 1 4 Tryz.underlying152 hi.out hz0.out hz1.out hz2.out rfl (by decide) _ _ _ rfl (ho.out.alloc _) ⟨w1.heap.size, 0, none⟩ 1 1 [.int .i32 (r : Int)] rfl rfl ?c1 ?c2 ?c3 ?c4 ?c5 ?_)
        case c1 =>
          intro j u hj
          match j, hj with
          | 0, hj => simp at hj; subst hj; simp [Addr.add]
        case c2 => intro u hu; simp at hu; subst hu; rfl
        case c3 => have := h4.out; have := h3.out; have := hs.out; unfold maxLen; omega
        case c4 => have := h4.out; have := h3.out; have := hs.out; omega
        case c5 => simp; omega
        intro v' w2 ho2 hg _
        have hb2 : Below w.heap.size w w2 := (hb1.alloc (by omega) _).grown hg (by simp; omega) (fun k hk => (ho.out.lt k hk).1)
        replace ho2 := Lib.hid ho2
        clear hg hb1 hsz1
        (go_wp2_with fail; repeat (any_goals (go_quiet (fail); go_wp2_with fail)))
        go_roundg kq
        case measure => omega
        case rel =>
          have h0 := h0.out
          have h1 := h1.out
          have h2 := h2.out
          have h3 := h3.out
          have h4 := h4.out
          have h5 := h5.out
          have b1 := b1.out
          refine ⟨l ++ [r], a + m, by simp, Lib.hid ⟨by rw [← h1]; simp, by rw [← h2], by omega, by simp; omega, by omega, ?_⟩, by assumption⟩
          have := ho2.out
          simpa [i32s] using this
    · rw [brk_end (Or.inl hlt)] at h1 h2
      simp only [List.append_nil] at h1 h2
      have hI : ¬ ((a : Int) < (s.size : Int)) := by omega
      replace ho := Lib.hid ho
      replace h1 := Lib.hid h1
      replace h2 := Lib.hid h2
      clear H h3 h4 h5 hsz hlt
      (go_wp2_with fail; repeat (any_goals (go_quiet (fail); go_wp2_with fail)))
      go_ret2
      have h1 := h1.out
      have h2 := h2.out
      subst h1 h2
      exact ⟨_, rfl, ho.out, (by repeat (first | assumption | exact Below.refl _ _ | apply Below.drew | apply below_drewN | apply balloc | (refine Below.setCell ?_ (by first | omega | (simp <;> omega)) _)))⟩

end Go.Proofs.YtibopkodoidjoaaGreatDoor

/- The reference's UTF-8: it breaks where the program's breaks. -/
namespace Go.Proofs.YtibopkodoidjoaaGreatDoor
open Go Go.RowKit

theorem get_bAt (t : ByteArray) (j : Nat) : (t.get! j).toNat = bAt t j := by
  obtain ⟨d⟩ := t
  unfold bAt
  show (d[j]!).toNat = _
  by_cases h : j < d.size
  · rw [getElem!_pos d j h, dif_pos (show j < (⟨d⟩ : ByteArray).size from h)]
    rfl
  · rw [getElem!_neg d j h, dif_neg (show ¬ j < (⟨d⟩ : ByteArray).size from h)]
    rfl
theorem bAt_extract (s : ByteArray) (a j : Nat) : bAt (s.extract a s.size) j = bAt s (a + j) := by
  unfold bAt
  have e : (s.extract a s.size).size = s.size - a := by rw [ByteArray.size_extract]; omega
  by_cases h : a + j < s.size
  · rw [dif_pos (by omega), dif_pos h]
    rw [ByteArray.getElem_extract]
  · rw [dif_neg (by omega), dif_neg h]
theorem refAt_eq {s : ByteArray} {a : Nat} (h : a < s.size) : refAt s a = nextS (s.extract a s.size) := by
  have e : (s.extract a s.size).size = s.size - a := by rw [ByteArray.size_extract]; omega
  unfold refAt nextS
  rw [refF_eq (fun j => bAt s (a + j)) _ (by omega) (bAt_lt _ _) (bAt_lt _ _) (bAt_lt _ _) (bAt_lt _ _)]
  have d : Lib.decodeGo (s.extract a s.size) = Lib.decodeN (s.size - a) (bAt s (a + 0)) (bAt s (a + 1)) (bAt s (a + 2)) (bAt s (a + 3)) := by
    show (if (s.extract a s.size).size = 0 then _ else Utf8.decode (s.extract a s.size) 0) = _
    rw [if_neg (by omega), Lib.decode_at, get_bAt, get_bAt, get_bAt, get_bAt, bAt_extract, bAt_extract, bAt_extract, bAt_extract, e]
    rfl
  rw [d]
theorem refDec_brk (s : ByteArray) : ∀ (k a : Nat), a ≤ s.size → s.size < a + k → (refDec s k a).2 = brkAt s a
  | 0, a, h1, h2 => by omega
  | k + 1, a, h1, h2 => by
    rw [brkAt_eq, refDec]
    by_cases h : a < s.size
    · rw [if_pos h, if_pos h]
      have e := refAt_eq h
      have hb := refF_bd (fun j => bAt s (a + j)) (s.size - a)
      have hw : widthAt s a = (refAt s a).2 := by unfold widthAt; rw [e]
      rw [hw]
      by_cases h0 : (refAt s a).2 = 0
      · rw [if_pos h0, if_pos h0]
      · rw [if_neg h0, if_neg h0]
        exact refDec_brk s k _ (by have : (refAt s a).2 ≤ s.size - a := hb.1; omega) (by omega)
    · rw [if_neg h, if_neg h]
theorem Breaks_calls (s : ByteArray) (w : World) (hs : s.size ≤ 35184372088830) :
    Calls Tryz.prog 48 #[.string s] w fun e w' => e = .returned (.int .i64 (brkAt s 0)) ∧ Below w.heap.size w w' := by
  have D := fun w => decode_calls s w hs
  rw [refDec_brk s _ 0 (Nat.zero_le _) (by omega)] at D
  replace D := Lib.hid D
  generalize brkAt s 0 = r at *
  go_enter Tryz.func48, Tryz.ntmps48
  (go_wp2_with fail; repeat (any_goals (go_quiet (fail); go_wp2_with fail)))
  refine (D.out _).mono ?_
  rintro e w1 ⟨v, rfl, ho, hb⟩
  clear ho
  (go_wp2_with fail; repeat (any_goals (go_quiet (fail); go_wp2_with fail)))
  go_ret
  exact ⟨rfl, (by repeat (first | assumption | exact Below.refl _ _ | apply Below.drew | apply below_drewN | apply balloc | (refine Below.setCell ?_ (by first | omega | (simp <;> omega)) _)))⟩
theorem brkAt_le (s : ByteArray) : brkAt s 0 ≤ s.size := by
  rw [← refDec_brk s (s.size + 1) 0 (Nat.zero_le _) (by omega)]
  have : ∀ k a, a ≤ s.size → (refDec s k a).2 ≤ s.size := by
    intro k
    induction k with
    | zero => intro a h; exact h
    | succ k ih =>
      intro a h
      rw [refDec]
      have hb := refF_bd (fun j => bAt s (a + j)) (s.size - a)
      have : (refAt s a).2 ≤ s.size - a := hb.1
      repeat' split
      · exact h
      · exact ih _ (by omega)
      · exact h
  exact this _ _ (Nat.zero_le _)
theorem Utf8_calls (s : ByteArray) (w : World) (hs : s.size ≤ 35184372088830) :
    Calls Tryz.prog 47 #[.string s] w fun e w' => e = .returned (.bool (decide (utfE s = 0))) ∧ Below w.heap.size w w' := by
  have D := fun w => Breaks_calls s w hs
  have hle := brkAt_le s
  replace D := Lib.hid D
  unfold utfE
  generalize brkAt s 0 = r at *
  go_enter Tryz.func47, Tryz.ntmps47
  (go_wp2_with fail; repeat (any_goals (go_quiet (fail); go_wp2_with fail)))
  refine (D.out _).mono ?_
  rintro e w1 ⟨rfl, hb⟩
  (go_wp2_with fail; repeat (any_goals (go_quiet (fail); go_wp2_with fail)))
  all_goals
    go_ret
    refine ⟨ret_bool ?_, (by repeat (first | assumption | exact Below.refl _ _ | apply Below.drew | apply below_drewN | apply balloc | (refine Below.setCell ?_ (by first | omega | (simp <;> omega)) _)))⟩
    rw [Bool.eq_iff_iff]
    simp <;> omega

end Go.Proofs.YtibopkodoidjoaaGreatDoor
