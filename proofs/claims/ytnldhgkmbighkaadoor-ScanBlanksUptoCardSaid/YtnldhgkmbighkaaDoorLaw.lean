/- From a law's walk to its row: what is read of the start, and what the post asks. -/
import Derived.Test.YtnldhgkmbighkaaDoorBase
import Derived.Test.YtnldhgkmbighkaaDoorShelf
import Derived.ProofKit
import Derived.OpenShut
import Derived.ChangeSame
import Derived.Carry
import Derived.LaidMore
import Derived.PinnedBridge
import Derived.LaidLaws
import Derived.Lib.LaidU8
import Derived.Lib.SmallJoins
import Derived.Deep.DeepHandedRow
import Derived.Deep.DeepWitnessRowRef
namespace Go.Proofs.YtnldhgkmbighkaaDoor
open Go Go.RowKit Go.WideShapes Go.ChangeShapes

section
variable {H : Type} {enc : TypeId × Value → H} {P : Program}
theorem post_of_below {f : Func} {s : ChangeSpec} {apart fresh handsOn again : Bool} {W W' : World} {args : Array Value} {v : Value} {ds gs : List (DataW H)} {before pa pv : List MemPlace}
    (hW : DataW.Whole enc P f.params.toList s.vars apart W args.toList ds gs before)
    (hres : ∀ (b : Nat) (sp : Nat → Bool) (hd : Bool), DataW.TrodAll enc P W' b sp hd f.resultTypes.toList (v.resultList f.resultTypes.size) (s.fn H (ds ++ gs)).results [])
    (hargs : ∀ sp : Nat → Bool, (∀ p ∈ before, sp p.block = true) → DataW.TrodAll enc P W' 0 sp true f.params.toList args.toList (s.fn H (ds ++ gs)).args pa)
    (hvars : ∀ sp : Nat → Bool, (∀ p ∈ before, sp p.block = true) → DataW.TrodVars enc P W' sp s.vars (s.fn H (ds ++ gs)).vars pv)
    (hps : before = pa ++ pv) (hb : Below W.heap.size W W')
    (hok : ∀ (j : Nat) (t : TypeId) (r : Value), f.resultTypes[j]? = some t → (v.resultList f.resultTypes.size)[j]? = some r → Value.okWide P W' .any 0 t r) :
    s.post enc P f apart fresh handsOn again W args v W' := by
  have hlt : ∀ p ∈ before, p.block < W.heap.size := fun p hp => hW.lt p hp
  have hold : ∀ p ∈ before, (fun b => decide (b < W.heap.size)) p.block = true := fun p hp => by simpa using hlt p hp
  refine ⟨ds, gs, before, [], pa, pv, hW, hres _ _ _, hargs _ hold, hvars _ hold, World.keptBut_mono (fun p hp => ⟨hp, ?_⟩) (hb.frame (· ∈ before)), fun _ => ?_⟩
  · rw [hps, List.mem_append] at hp
    exact Or.inr hp
  · obtain ⟨_, _, _, _, _, hz, hn⟩ := hW
    refine ⟨hok, _, _, ([] ++ pa) ++ pv, ⟨[] ++ pa, pv, trodAll_append (hargs _ (fun _ _ => rfl)) (hres _ _ _), hvars _ (fun _ _ => rfl), rfl, ?_, ?_⟩, ?_⟩
    · intro b off hp
      have hin : MemPlace.cell b off ∈ before := by rw [hps]; simpa using hp
      rw [hb.frozen (hlt _ hin)]
      exact hz b off hin
    · intro ha
      have := hn ha
      rw [hps] at this
      simpa using this
    · intro p hp _
      rw [hps]
      simpa using hp
end

section
variable {H : Type} {enc : TypeId × Value → H} {P : Program}
theorem trodAll_below (hl : laidOutB P = true) {W W' : World} (hb : Below W.heap.size W W') {sp : Nat → Bool} :
    ∀ {ts : List TypeId} {vs : List Value} {ds : List (DataW H)} {ps : List MemPlace}, DataW.TrodAll enc P W 0 (fun _ => true) true ts vs ds ps → (∀ t ∈ ts, P.readableRec t = true ∧ t < P.types.size) →
      (∀ x ∈ ps, x.block < W.heap.size ∧ sp x.block = true) → DataW.TrodAll enc P W' 0 sp true ts vs ds ps
  | [], [], [], _, h, _, _ => h
  | t :: ts, v :: vs, d :: ds, ps, h, ht, hp => by
    obtain ⟨p, q, h1, h2, rfl⟩ := h
    exact ⟨p, q, WideElems.Trod_stays hl (ht t (List.mem_cons_self ..)).1 (ht t (List.mem_cons_self ..)).2 h1 (fun x hx => hb.same (hp x (List.mem_append_left _ hx)).1) (fun x hx => (hp x (List.mem_append_left _ hx)).2),
      trodAll_below hl hb h2 (fun t' h' => ht t' (List.mem_cons_of_mem _ h')) (fun x hx => hp x (List.mem_append_right _ hx)), rfl⟩
/-- A law that answers true and leaves all that was there as it was meets its post. -/
theorem lawPost {f : Func} {s : ChangeSpec} {apart fresh handsOn again : Bool} {W W' : World} {args : Array Value} {ds gs : List (DataW H)} {before : List MemPlace} {tb : TypeId}
    (hl : laidOutB P = true) (hv : s.vars = []) (hrt : f.resultTypes = #[tb]) (htb : P.underlying tb = some .bool) (hread : f.params.toList.all (fun t => P.readableRec t && decide (t < P.types.size)) = true)
    (hW : DataW.Whole enc P f.params.toList s.vars apart W args.toList ds gs before) (hfn : s.fn H (ds ++ gs) = { results := [.lit (.bool true)], args := ds }) (hb : Below W.heap.size W W') :
    s.post enc P f apart fresh handsOn again W args (.bool true) W' := by
  have hW0 := hW
  obtain ⟨p, q, hA, hV, rfl, hfz, hnd⟩ := hW
  rw [hv] at hV
  obtain ⟨rfl, rfl⟩ := trodVars_none hV
  have hlt : ∀ x ∈ p ++ [], x.block < W.heap.size := fun x hx => hW0.lt x hx
  have hall : ∀ t ∈ f.params.toList, P.readableRec t = true ∧ t < P.types.size := fun t ht => by
    have := List.all_eq_true.1 hread t ht
    simpa using this
  have hres : (Value.bool true).resultList f.resultTypes.size = [.bool true] := by rw [hrt]; rfl
  refine post_of_below (pa := p) (pv := []) hW0 (fun b sp hd => ?_) (fun sp hs => ?_) (fun sp hs => ?_) (by simp) hb ?_
  · rw [hres, hrt, hfn]
    exact trodAll_mk1 (shut_bool htb true)
  · rw [hfn]
    exact trodAll_below hl hb hA hall fun x hx => ⟨hlt x (by simpa using hx), hs x (by simpa using hx)⟩
  · rw [hv, hfn]
    exact rfl
  · rw [hres, hrt]
    intro j t r ht hr
    match j with
    | 0 =>
      simp at ht hr
      subst ht; subst hr
      exact okWide_bool_mk htb true
    | j + 1 => simp at ht
end

/-! ### The listed variables -/
def sentD (text : List UInt8) : DataW Unit := .iface "*errors.errorString" (.ptr (.agg [.lit (.string text)]))
theorem laidVars_all {P : Program} {w : World} {Q : MemPlace → Prop} : ∀ {l : List (String × DataW Unit)} {ps : List MemPlace}, DataW.LaidVars P w l ps → (∀ x ∈ ps, Q x) → ∀ n d, (n, d) ∈ l →
    ∃ g t cs fuel p, P.globalNamed n = some g ∧ (P.globals[g]?).map (·.type) = some t ∧ w.var? P n = some cs ∧ DataW.trod (fun _ => ()) P w 0 (fun _ => true) false fuel t cs.toList = some (d, p) ∧ ∀ x ∈ MemPlace.row ⟨g, 0, none⟩ cs.size ++ p, Q x
  | [], _, _, _, _, _, hm => by cases hm
  | (n', d') :: r, ps, h, hq, n, d, hm => by
    obtain ⟨g, t, cs, fuel, p, q, h1, h2, h3, h4, h5, rfl⟩ := h
    rcases List.mem_cons.1 hm with e | e
    · cases e
      exact ⟨g, t, cs, fuel, p, h1, h2, h3, h4, fun x hx => hq x (List.mem_append_left _ hx)⟩
    · exact laidVars_all h5 (fun x hx => hq x (List.mem_append_right _ hx)) n d e
theorem starErr : "*" ++ "errors.errorString" = "*errors.errorString" := by decide
theorem typeErr (u : TypeId) (h : Tryd.prog.typeName? 3 u = some "*errors.errorString") : u = 203 :=
  typeName_ptr_named (nm := "errors.errorString") (by rw [starErr]; kernel_rfl) (by kernel_rfl) (by decide) u (by rw [starErr]; exact h)
set_option maxRecDepth 100000 in
/-- A listed sentinel: the variable holds a pointer, behind it stands the text. -/
theorem sent_of {l : List (String × DataW Unit)} {W : World} (h : laidMet Tryd.prog l W) {n : String} {text : List UInt8} (hm : (n, sentD text) ∈ l) {g : Nat} (hg : Tryd.prog.globalNamed n = some g)
    (ht : (Tryd.prog.globals[g]?).map (·.type) = some 31) :
    ∃ a s cs t, W.cell? ⟨g, 0, none⟩ = some (.iface 203 (.pointer (some a))) ∧ W.cell? a = some (.string s) ∧ s.data.toList = text ∧ W.heap[a.block]? = some (.cells cs t (0, 0)) := by
  obtain ⟨ps, hv, hnd, hrows⟩ := h
  obtain ⟨g', t', cs, fuel, p, h1, h2, h3, h4, h5⟩ := laidVars_all hv (Q := fun x => ∀ b off, x = MemPlace.cell b off → (∃ c t, W.heap[b]? = some (.cells c t (0, 0))) ∧ ∀ u v, W.cell? ⟨b, off, none⟩ = some (.iface u v) → Value.okWide Tryd.prog W .any 0 u v)
    (fun x hx b off e => hrows b off (e ▸ hx)) n _ hm
  obtain rfl := Option.some.inj (hg.symm.trans h1)
  obtain rfl := Option.some.inj (ht.symm.trans h2)
  obtain ⟨l0⟩ := cs
  have ok0 : ∀ u v, l0 = [.iface u v] → Value.okWide Tryd.prog W .any 0 u v := fun u v e => by
    subst e
    exact (h5 (.cell g 0) (by simp [MemPlace.row]) g 0 rfl).2 u v (by rw [World.var?_cell hg h3 0]; rfl)
  obtain ⟨a, s, rfl, hc, hs, hz, rfl⟩ := errorString_of_trod Tryd.underlying31 typeErr Tryd.underlying203 Tryd.underlying205 rfl rfl Tryd.underlying9 (by kernel_rfl) (by kernel_rfl) h4 ok0
  obtain ⟨c0, t0, hb0⟩ := (h5 (.cell a.block a.off) (by simp [MemPlace.row]) a.block a.off rfl).1
  exact ⟨a, s, c0, t0, by rw [World.var?_cell hg h3 0]; rfl, hc, hs, hb0⟩

/-- The sentinels' texts, and the names of their variables. -/
def txErr : Nat → List UInt8
  | 1 => [118, 101, 108, 108, 117, 109, 58, 32, 117, 116, 102, 45, 56]
  | 2 => [118, 101, 108, 108, 117, 109, 58, 32, 106, 115, 111, 110]
  | 3 => [118, 101, 108, 108, 117, 109, 58, 32, 110, 101, 115, 116, 105, 110, 103]
  | 4 => [118, 101, 108, 108, 117, 109, 58, 32, 110, 117, 109, 98, 101, 114]
  | 5 => [118, 101, 108, 108, 117, 109, 58, 32, 107, 105, 110, 100]
  | 6 => [118, 101, 108, 108, 117, 109, 58, 32, 107, 101, 121]
  | 7 => [118, 101, 108, 108, 117, 109, 58, 32, 110, 117, 108, 108]
  | 8 => [118, 101, 108, 108, 117, 109, 58, 32, 97, 116, 116, 114, 105, 98, 117, 116, 101, 115]
  | 9 => [118, 101, 108, 108, 117, 109, 58, 32, 111, 112, 101, 114, 97, 116, 105, 111, 110]
  | 10 => [118, 101, 108, 108, 117, 109, 58, 32, 108, 105, 109, 105, 116]
  | 11 => [118, 101, 108, 108, 117, 109, 58, 32, 108, 111, 110, 103]
  | 12 => [118, 101, 108, 108, 117, 109, 58, 32, 114, 97, 110, 103, 101]
  | 13 => [118, 101, 108, 108, 117, 109, 58, 32, 115, 99, 104, 101, 109, 97]
  | 14 => [118, 101, 108, 108, 117, 109, 58, 32, 101, 110, 100]
  | 15 => [118, 101, 108, 108, 117, 109, 58, 32, 101, 109, 112, 116, 121]
  | 16 => [118, 101, 108, 108, 117, 109, 58, 32, 109, 97, 114, 107]
  | 17 => [118, 101, 108, 108, 117, 109, 58, 32, 114, 101, 112, 108, 105, 99, 97]
  | 18 => [118, 101, 108, 108, 117, 109, 58, 32, 98, 121, 116, 101, 115]
  | 19 => [118, 101, 108, 108, 117, 109, 58, 32, 99, 111, 109, 109, 97, 110, 100]
  | 20 => [118, 97, 108, 117, 101, 32, 111, 117, 116, 32, 111, 102, 32, 114, 97, 110, 103, 101]
  | 21 => [105, 110, 118, 97, 108, 105, 100, 32, 115, 121, 110, 116, 97, 120]
  | _ => []
def nmErr : Nat → String
  | 1 => "vellum/api.ErrUtf8"
  | 2 => "vellum/api.ErrJson"
  | 3 => "vellum/api.ErrNest"
  | 4 => "vellum/api.ErrNumber"
  | 5 => "vellum/api.ErrKind"
  | 6 => "vellum/api.ErrKey"
  | 7 => "vellum/api.ErrNull"
  | 8 => "vellum/api.ErrAttrs"
  | 9 => "vellum/api.ErrOp"
  | 10 => "vellum/api.ErrLimit"
  | 11 => "vellum/api.ErrLong"
  | 12 => "vellum/api.ErrRange"
  | 13 => "vellum/api.ErrSchema"
  | 14 => "vellum/api.ErrEnd"
  | 15 => "vellum/api.ErrEmpty"
  | 16 => "vellum/api.ErrMark"
  | 17 => "vellum/api.ErrReplica"
  | 18 => "vellum/api.ErrBytes"
  | 19 => "vellum/api.ErrCommand"
  | 20 => "strconv.ErrRange"
  | 21 => "strconv.ErrSyntax"
  | _ => ""
def addrAt (W : World) (g : Nat) : Addr := match W.cell? ⟨g, 0, none⟩ with | some (.iface _ (.pointer (some a))) => a | _ => ⟨0, 0, none⟩
theorem laidMet_of_H {P : Program} {l : List (String × DataW Unit)} {w : World} (hn : (l.filter fun x => x.2.handleName?.isSome) = []) (h : laidMetH P l w) : laidMet P l w := by
  unfold laidMetH at h
  rw [hn] at h
  exact h
theorem tabs_of {l : List (String × DataW Unit)} {W : World} (h : laidMet Tryd.prog l W) (h1 : ("unicode/utf8.first", Go.Pinned.utf8First) ∈ l) (h2 : ("unicode/utf8.acceptRanges", Lib.acceptData) ∈ l) :
    Lib.Utf8Tabs 22 23 W := by
  rw [Pinned.utf8First_eq] at h1
  exact utf8Tabs_of_reads (ρ := Tryd.lays260_ren) Tryd.lays260 ⟨by kernel_rfl, by kernel_rfl, by kernel_rfl, by kernel_rfl, by kernel_rfl, by kernel_rfl, by kernel_rfl⟩ (Lib.laidMet.reads h h1) (Lib.laidMet.reads h h2)
theorem env_mk {S : List Nat} {l : List (String × DataW Unit)} {W : World} (h : laidMet Tryd.prog l W) (h1 : ("unicode/utf8.first", Go.Pinned.utf8First) ∈ l) (h2 : ("unicode/utf8.acceptRanges", Lib.acceptData) ∈ l)
    (hs : ∀ k ∈ S, (nmErr k, sentD (txErr k)) ∈ l) (hg : ∀ k ∈ S, Tryd.prog.globalNamed (nmErr k) = some (gErr k) ∧ (Tryd.prog.globals[gErr k]?).map (·.type) = some 31)
    (hpos : ∀ k ∈ S, 0 < k) (hinj : ∀ j ∈ S, ∀ k ∈ S, txErr j = txErr k → j = k) : Env (fun k => addrAt W (gErr k)) W.heap.size S W := by
  have ht := tabs_of h h1 h2
  have hsent : ∀ k ∈ S, ∃ a s cs t, W.cell? ⟨gErr k, 0, none⟩ = some (.iface 203 (.pointer (some a))) ∧ W.cell? a = some (.string s) ∧ s.data.toList = txErr k ∧ W.heap[a.block]? = some (.cells cs t (0, 0)) :=
    fun k hk => sent_of h (hs k hk) (hg k hk).1 (hg k hk).2
  have hA : ∀ k ∈ S, ∀ a, W.cell? ⟨gErr k, 0, none⟩ = some (.iface 203 (.pointer (some a))) → addrAt W (gErr k) = a := fun k hk a e => by
    unfold addrAt; rw [e]
  refine ⟨Nat.le_refl _, ht, ⟨World.block_lt_of_cell? W _ (ht.1 0 (by decide)), World.block_lt_of_cell? W _ (ht.2 0 (by decide)).1⟩, fun k hk => ?_, fun k hk => ?_, fun k hk => ?_, fun j k hj hk hne => ?_⟩
  · obtain ⟨a, s, cs, t, hc, _, _, _⟩ := hsent k hk
    rw [errV_pos _ (hpos k hk), hA k hk a hc]
    exact hc
  · obtain ⟨a, s, cs, t, hc, _, _, hb⟩ := hsent k hk
    refine ⟨World.block_lt_of_cell? W _ hc, ?_⟩
    show (addrAt W (gErr k)).block < _
    rw [hA k hk a hc]
    exact ltB hb
  · obtain ⟨a, s, cs, t, hc, _, _, hb⟩ := hsent k hk
    refine ⟨cs, t, ?_⟩
    show W.heap[(addrAt W (gErr k)).block]? = _
    rw [hA k hk a hc]
    exact hb
  · obtain ⟨a, s, _, _, hc, hca, hsa, _⟩ := hsent j hj
    obtain ⟨b, s', _, _, hc', hcb, hsb, _⟩ := hsent k hk
    show addrAt W (gErr j) ≠ addrAt W (gErr k)
    rw [hA j hj a hc, hA k hk b hc']
    rintro rfl
    rw [hca] at hcb
    have e : s = s' := by injection hcb with hcb; injection hcb
    exact hne (hinj j hj k hk (by rw [← hsa, ← hsb, e]))
/-- A table of the library: the reading of its variable. -/
theorem tab_of {l : List (String × DataW Unit)} {W : World} {n : String} {k : IntKind} {zs : List Int} {T E : TypeId} {g : Nat} (h : laidMet Tryd.prog l W) (hm : (n, Lib.tabData k zs) ∈ l)
    (hg : Tryd.prog.globalNamed n = some g) (ht : (Tryd.prog.globals[g]?).map (·.type) = some T) {m : Nat} (hT : Tryd.prog.underlying T = some (.array m E)) (hE : Tryd.prog.underlying E = some (.int k)) (cE : Tryd.prog.cellsOf E = 1) (cT : Tryd.prog.cellsOf T = m) :
    Lib.TabIs Tryd.prog W n k zs := by
  obtain ⟨g', t', cs, fuel, p, h1, h2, h3, h4⟩ := Lib.laidMet.reads h hm
  obtain rfl := Option.some.inj (hg.symm.trans h1)
  obtain rfl := Option.some.inj (ht.symm.trans h2)
  have := Lib.cells_of_tab hT hE cE cT h4
  unfold Lib.TabIs
  rw [h3, ← this]

theorem of_wf_lo {n : Int} (h : (Lit.int .i64 n).wf = true) : -9223372036854775808 ≤ n := by
  simp [Lit.wf, IntKind.min, IntKind.max, IntKind.signed, IntKind.bits] at h; omega
theorem of_wf_hi {n : Int} (h : (Lit.int .i64 n).wf = true) : n ≤ 9223372036854775807 := by
  simp [Lit.wf, IntKind.min, IntKind.max, IntKind.signed, IntKind.bits] at h; omega

end Go.Proofs.YtnldhgkmbighkaaDoor
