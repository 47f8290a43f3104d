/- TreeBlanks: the card of the statement, proved. No condition beyond the card's own. (Written by card.py.) -/
import Derived.Test.YtibopkodoidjoaaDoorCards
import Derived.Test.YtibopkodoidjoaaDoorTie
import Derived.Test.YtibopkodoidjoaaDoorM1
import Derived.Test.YtibopkodoidjoaaDoorM9
import Derived.LaidHandle
import Derived.SizedLaws

namespace Go.Proofs.YtibopkodoidjoaaDoor.lawTreeBlanks
open Go Go.RowKit Go.WideShapes Go.ChangeShapes Go.ChangeAt Go.Proofs.YtibopkodoidjoaaDoor
open Go.ChangeMaps (open_string shut_string)

theorem own : ownKnob Tryd.prog.godebug = none := by kernel_rfl
def LL : List (String × DataW Unit) := Rows.treeBlanksRow.laid.filter fun x => x.2.handleName?.isNone
theorem parts {W : World} (h : laidMetH Tryd.prog Rows.treeBlanksRow.laid W) : laidMet Tryd.prog LL W ∧ handlesMet Tryd.prog [("errors.errorType", Rows.laid_errors_errorType)] W :=
  (show laidMetH Tryd.prog Rows.treeBlanksRow.laid W = (laidMet Tryd.prog LL W ∧ handlesMet Tryd.prog [("errors.errorType", Rows.laid_errors_errorType)] W) by kernel_rfl) ▸ h
theorem rt : (Tryd.prog.cutTypes.find? (·.1 == "internal/reflectlite.rtype")).map (·.2) = some 99 := by kernel_rfl
theorem oneRow : ((List.range Tryd.prog.types.size).filter fun t => Tryd.prog.rowNamed t [101, 114, 114, 111, 114]) = [31] := by kernel_rfl
/-- What the list gives of the variable of package errors. -/
theorem handle_of {W : World} (h : handlesMet Tryd.prog [("errors.errorType", Rows.laid_errors_errorType)] W) : W.cell? ⟨0, 0, none⟩ = some (.iface 99 (.agg #[.pointer (some ⟨23, 31, none⟩)])) := by
  obtain ⟨name, u, ty, e1, e2, e3, e4, e5⟩ := h _ (List.mem_singleton.2 rfl)
  have en : name = [101, 114, 114, 111, 114] := (Option.some.inj e1).symm
  subst en
  obtain rfl := Option.some.inj (rt.symm.trans e2)
  have hm : ty ∈ (List.range Tryd.prog.types.size).filter fun t => Tryd.prog.rowNamed t [101, 114, 114, 111, 114] := List.mem_filter.2 ⟨List.mem_range.2 e3, e4⟩
  rw [oneRow] at hm
  obtain rfl := List.mem_singleton.1 hm
  have hh : typeHandle Tryd.prog 31 = .pointer (some ⟨23, 31, none⟩) := by kernel_rfl
  rw [hh] at e5
  simpa using World.var?_cell (show Tryd.prog.globalNamed "errors.errorType" = some 0 by kernel_rfl) e5 0
theorem env_of {W : World} (h : laidMetH Tryd.prog Rows.treeBlanksRow.laid W) : EnvA (fun k => addrAt W (gErr k)) W.heap.size W := by
  obtain ⟨hL, hH⟩ := parts h
  have hc := handle_of hH
  refine ⟨env_mk hL (List.mem_of_getElem? (i := 20) (by kernel_rfl)) (List.mem_of_getElem? (i := 0) (by kernel_rfl)) ?_ ?_ (by decide) (by decide), hc, World.block_lt_of_cell? W _ hc⟩
  · intro k hk
    simp only [SVN, List.mem_cons, List.mem_nil_iff, or_false] at hk
    rcases hk with rfl | rfl | rfl | rfl | rfl | rfl | rfl | rfl | rfl | rfl | rfl | rfl | rfl | rfl | rfl | rfl | rfl | rfl | rfl
    · exact List.mem_of_getElem? (i := 1) (by kernel_rfl)
    · exact List.mem_of_getElem? (i := 2) (by kernel_rfl)
    · exact List.mem_of_getElem? (i := 3) (by kernel_rfl)
    · exact List.mem_of_getElem? (i := 4) (by kernel_rfl)
    · exact List.mem_of_getElem? (i := 5) (by kernel_rfl)
    · exact List.mem_of_getElem? (i := 6) (by kernel_rfl)
    · exact List.mem_of_getElem? (i := 7) (by kernel_rfl)
    · exact List.mem_of_getElem? (i := 8) (by kernel_rfl)
    · exact List.mem_of_getElem? (i := 9) (by kernel_rfl)
    · exact List.mem_of_getElem? (i := 10) (by kernel_rfl)
    · exact List.mem_of_getElem? (i := 11) (by kernel_rfl)
    · exact List.mem_of_getElem? (i := 12) (by kernel_rfl)
    · exact List.mem_of_getElem? (i := 13) (by kernel_rfl)
    · exact List.mem_of_getElem? (i := 14) (by kernel_rfl)
    · exact List.mem_of_getElem? (i := 15) (by kernel_rfl)
    · exact List.mem_of_getElem? (i := 16) (by kernel_rfl)
    · exact List.mem_of_getElem? (i := 17) (by kernel_rfl)
    · exact List.mem_of_getElem? (i := 18) (by kernel_rfl)
    · exact List.mem_of_getElem? (i := 19) (by kernel_rfl)
  · intro k hk
    simp only [SVN, List.mem_cons, List.mem_nil_iff, or_false] at hk
    rcases hk with rfl | rfl | rfl | rfl | rfl | rfl | rfl | rfl | rfl | rfl | rfl | rfl | rfl | rfl | rfl | rfl | rfl | rfl | rfl
    all_goals exact ⟨by kernel_rfl, by kernel_rfl⟩

set_option maxRecDepth 100000 in
/-- What the walk gives, for every argument. -/
theorem contract (H : Type) (enc : TypeId × Value → H) (W : World) (base : Nat) (args : Array Value) (ds gs : List (DataW H)) (before : List MemPlace)
    (hval : ∀ (j : Nat) t v, Tryd.f3.params[j]? = some t → args[j]? = some v → Value.okWide Tryd.prog W .any base t v)
    (hW : DataW.Whole enc Tryd.prog Tryd.f3.params.toList Rows.treeBlanksSpec.vars false W args.toList ds gs before)
    (hwt : (DataW.weightsEach Tryd.prog (Tryd.f3.params.toList ++ (OpenSpec.ofChange Rows.treeBlanksSpec).bare.plain.varTypes Tryd.prog) (ds ++ gs)).all (· ≤ reachBytes) = true)
    (hL : laidMetH Tryd.prog Rows.treeBlanksRow.laid W) :
    Calls Tryd.prog 3 args W fun e W' => ∃ v, e = .returned v ∧ Rows.treeBlanksSpec.post enc Tryd.prog Tryd.f3 false true false false W args v W' := by
  have hW' := hW
  obtain ⟨p, q, hA0, hV, rfl, hfz, hnd⟩ := hW
  have hA : DataW.TrodAll enc Tryd.prog W 0 (fun _ => true) true Tryd.f3.params.toList args.toList ds p := hA0
  rw [Tryd.params3] at hA hval hwt
  obtain ⟨v0, vs0, d0, ds0, p0, q0, hargs, rfl, rfl, h0, r0⟩ := trodAll_cons hA
  obtain ⟨v1, vs1, d1, ds1, p1, q1, rfl, rfl, rfl, h1, r1⟩ := trodAll_cons r0
  obtain ⟨rfl, rfl, rfl⟩ := trodAll_nil r1
  obtain rfl : args = #[v0, v1] := by cases args; simp_all
  obtain ⟨rfl, rfl⟩ := trodVars_none hV
  obtain ⟨t0, rfl, rfl, rfl, _⟩ := open_string Tryd.underlying9 (hval 0 _ _ rfl rfl) h0
  obtain ⟨bs1, hI1⟩ := strs_of (hval 1 _ _ rfl rfl) h1
  clear hA0
  refine (TreeBlanks_calls t0 v1 bs1 W hI1 (env_of hL)).mono fun e W' ⟨he, hb⟩ => ?_
  subst he
  exact ⟨_, rfl, lawPost (by kernel_rfl) rfl rfl Tryd.underlying4 (by kernel_rfl) hW' rfl hb⟩

/-- A world for the witness: the one that the door's own run leaves, the pinned table laid in its place. -/
noncomputable def laidWorld (os : Os) : World :=
  { World.doorLaid Tryd.prog 440 os with heap := (World.doorLaid Tryd.prog 440 os).heap.modify 20 fun
      | .cells _ t frozen => .cells (Lib.firstTab.map fun z => Value.int .u8 z).toArray t frozen
      | o => o }
def zArgs : Array Value := #[.string ⟨#[]⟩, .slice none 0 0]
theorem laid_met (os : Os) : laidMetH Tryd.prog Rows.treeBlanksRow.laid ((laidWorld os).forCall (fun _ _ => 0) ⟨#[], zArgs, []⟩).memory :=
  laidMetH_of_parts (laidMet_of_run' 8 (by kernel_rfl) (by kernel_rfl)) (by kernel_rfl)
theorem reads (os : Os) {H : Type} (enc : TypeId × Value → H) : ∃ places, DataW.whole enc Tryd.prog ((laidWorld os).forCall (fun _ _ => 0) ⟨#[], zArgs, []⟩).memory Tryd.f3.params.toList Rows.treeBlanksSpec.vars false zArgs.toList 8 = some ([.lit (.string []), .nil], [], places) :=
  ⟨[], by kernel_rfl⟩

set_option maxRecDepth 100000 in
theorem lifted (os : Os) (started : os.Started) (H : Type) (enc : TypeId × Value → H) (F : Stop.Interp) :
    ReturnsInHanded {} Tryd.checked os 3 .any ((OpenSpec.ofChange Rows.treeBlanksSpec).preRow enc Tryd.prog Tryd.f3 Rows.treeBlanksRow.domain false Rows.treeBlanksRow.laid) (((OpenSpec.ofChange Rows.treeBlanksSpec).at F).post enc Tryd.prog Tryd.f3 false true false false) := by
  obtain ⟨places, hx⟩ := reads os enc
  refine returnsInHanded_of_row (C := Tryd.checked) (s := OpenSpec.ofChange Rows.treeBlanksSpec) own started (by kernel_rfl) Tryd.func3
    (witness_row_atRef (enc := enc) (C := Tryd.checked) false (laidWorld os) zArgs rfl (by kernel_rfl) (by kernel_rfl) (by kernel_rfl)
      (OpenSpec.preRow_of_cond 8 hx (by kernel_rfl) (fun k hk => by cases hk) (by kernel_rfl) (laid_met os))) ?_
  intro W base args ds gs before hval hW _ _ hwt hL _ _
  exact contract H enc W base args ds gs before hval hW hwt hL

theorem said : Rows.TreeBlanksSaid :=
  OpenClaim.holds_of_cond 3 Tryd.f3 rfl rfl rfl rfl rfl rfl rfl ⟨rfl, rfl, rfl, rfl, rfl⟩ rfl rfl rfl rfl rfl (by kernel_rfl) Tryd.func3 (by kernel_rfl)
    (of_decide_eq_true (by kernel_rfl)) (by unfold Func.isWrapper; rw [if_neg (of_decide_eq_false (by kernel_rfl))]; exact ⟨rfl, rfl⟩)
    (fun os started H enc _ F => by rw [OpenClaim.pre_eq_preRow]; exact lifted os started H enc F)

theorem plain (f : FuncId) (fn : Func) (hf : Tryd.pinned.checked.prog.funcNamed "vellum/vellumlaw18.TreeBlanks" = some f) (hfn : Tryd.pinned.checked.prog.funcs[f]? = some fn) :
    true = Tryd.pinned.checked.prog.looks [] ∧ ∀ (j : Nat) t, fn.params[j]? = some t → Tryd.pinned.checked.prog.wantsStandIn t = false := by
  obtain rfl : f = 3 := Option.some.inj ((show Tryd.prog.funcNamed "vellum/vellumlaw18.TreeBlanks" = some 3 by kernel_rfl).symm.trans hf) |>.symm
  obtain rfl : fn = Tryd.f3 := (Option.some.inj (Tryd.func3.symm.trans hfn)).symm
  refine ⟨by kernel_rfl, fun j t ht => ?_⟩
  have hall : Tryd.f3.params.toList.all (fun t => !Tryd.prog.wantsStandIn t) = true := by kernel_rfl
  have := List.all_eq_true.1 hall t (List.mem_of_getElem? (i := j) (by simpa using ht))
  exact (show Tryd.prog.wantsStandIn t = false by simpa using this)

/-- The card. -/
theorem card : Rows.TreeBlanksCardSaid :=
  Claim7.holds_tied_plain_at .later [] _ _ _ _ said (fun _ h => by cases h) (by kernel_rfl) (fun _ h => by cases h) treeBlanks_row_tie rfl ⟨rfl, rfl⟩ (by kernel_rfl) rfl plain (by kernel_rfl)

end Go.Proofs.YtibopkodoidjoaaDoor.lawTreeBlanks
