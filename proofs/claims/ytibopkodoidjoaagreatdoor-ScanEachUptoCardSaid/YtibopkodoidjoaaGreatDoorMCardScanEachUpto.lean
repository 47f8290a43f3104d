/- ScanEachUpto: the card of the statement, proved. No condition beyond the card's own. (Written by card.py.) -/
import Derived.Test.YtibopkodoidjoaaGreatDoorCards
import Derived.Test.YtibopkodoidjoaaGreatDoorTie
import Derived.Test.YtibopkodoidjoaaGreatDoorM1
import Derived.Test.YtibopkodoidjoaaGreatDoorM7
import Derived.SizedLaws

namespace Go.Proofs.YtibopkodoidjoaaGreatDoor.lawScanEach
open Go Go.RowKit Go.WideShapes Go.ChangeShapes Go.ChangeAt Go.Proofs.YtibopkodoidjoaaGreatDoor
open Go.ChangeMaps (open_string shut_string)

theorem own : ownKnob Tryz.prog.godebug = none := by kernel_rfl
theorem env_of {W : World} (h : laidMetH Tryz.prog Rows.scanEachUptoRow.laid W) : Env (fun k => addrAt W (gErr k)) W.heap.size SVY W := by
  have hL : laidMet Tryz.prog Rows.scanEachUptoRow.laid W := laidMet_of_H (by kernel_rfl) h
  refine env_mk hL (List.mem_of_getElem? (i := 25) (by kernel_rfl)) (List.mem_of_getElem? (i := 3) (by kernel_rfl)) ?_ ?_ (by decide) (by decide)
  · intro k hk
    simp only [SVY, List.mem_cons, List.mem_nil_iff, or_false] at hk
    rcases hk with rfl | rfl | rfl | rfl | rfl | rfl | rfl | rfl | rfl | rfl | rfl | rfl | rfl | rfl | rfl | rfl | rfl | rfl | rfl | rfl | rfl
    · exact List.mem_of_getElem? (i := 6) (by kernel_rfl)
    · exact List.mem_of_getElem? (i := 7) (by kernel_rfl)
    · exact List.mem_of_getElem? (i := 8) (by kernel_rfl)
    · exact List.mem_of_getElem? (i := 9) (by kernel_rfl)
    · exact List.mem_of_getElem? (i := 10) (by kernel_rfl)
    · exact List.mem_of_getElem? (i := 11) (by kernel_rfl)
    · exact List.mem_of_getElem? (i := 12) (by kernel_rfl)
    · exact List.mem_of_getElem? (i := 13) (by kernel_rfl)
    · exact List.mem_of_getElem? (i := 14) (by kernel_rfl)
    · exact List.mem_of_getElem? (i := 15) (by kernel_rfl)
    · exact List.mem_of_getElem? (i := 16) (by kernel_rfl)
    · exact List.mem_of_getElem? (i := 17) (by kernel_rfl)
    · exact List.mem_of_getElem? (i := 18) (by kernel_rfl)
    · exact List.mem_of_getElem? (i := 19) (by kernel_rfl)
    · exact List.mem_of_getElem? (i := 20) (by kernel_rfl)
    · exact List.mem_of_getElem? (i := 21) (by kernel_rfl)
    · exact List.mem_of_getElem? (i := 22) (by kernel_rfl)
    · exact List.mem_of_getElem? (i := 23) (by kernel_rfl)
    · exact List.mem_of_getElem? (i := 24) (by kernel_rfl)
    · exact List.mem_of_getElem? (i := 4) (by kernel_rfl)
    · exact List.mem_of_getElem? (i := 5) (by kernel_rfl)
  · intro k hk
    simp only [SVY, List.mem_cons, List.mem_nil_iff, or_false] at hk
    rcases hk with rfl | rfl | rfl | rfl | rfl | rfl | rfl | rfl | rfl | rfl | rfl | rfl | rfl | rfl | rfl | rfl | rfl | rfl | rfl | rfl | rfl
    all_goals exact ⟨by kernel_rfl, by kernel_rfl⟩

set_option maxRecDepth 100000 in
/-- What the walk gives, for every argument. -/
theorem contract (H : Type) (enc : TypeId × Value → H) (W : World) (base : Nat) (args : Array Value) (ds gs : List (DataW H)) (before : List MemPlace)
    (hval : ∀ (j : Nat) t v, Tryz.f5.params[j]? = some t → args[j]? = some v → Value.okWide Tryz.prog W .any base t v)
    (hW : DataW.Whole enc Tryz.prog Tryz.f5.params.toList Rows.scanEachSpec.vars false W args.toList ds gs before)
    (hwt : (DataW.weightsEach Tryz.prog (Tryz.f5.params.toList ++ (Rows.OpenSpec.upto Rows.scanEachSpec).bare.plain.varTypes Tryz.prog) (ds ++ gs)).all (· ≤ reachBytes) = true)
    (hL : laidMetH Tryz.prog Rows.scanEachUptoRow.laid W) (hk : Rows.uptoSmall H (ds ++ gs) = true) :
    Calls Tryz.prog 5 args W fun e W' => ∃ v, e = .returned v ∧ Rows.scanEachSpec.post enc Tryz.prog Tryz.f5 false true false false W args v W' := by
  have hW' := hW
  obtain ⟨p, q, hA0, hV, rfl, hfz, hnd⟩ := hW
  have hA : DataW.TrodAll enc Tryz.prog W 0 (fun _ => true) true Tryz.f5.params.toList args.toList ds p := hA0
  rw [Tryz.params5] at hA hval hwt
  obtain ⟨v0, vs0, d0, ds0, p0, q0, hargs, rfl, rfl, h0, r0⟩ := trodAll_cons hA
  obtain ⟨v1, vs1, d1, ds1, p1, q1, rfl, rfl, rfl, h1, r1⟩ := trodAll_cons r0
  obtain ⟨rfl, rfl, rfl⟩ := trodAll_nil r1
  obtain rfl : args = #[v0, v1] := by cases args; simp_all
  obtain ⟨rfl, rfl⟩ := trodVars_none hV
  obtain ⟨t0, rfl, rfl, rfl, _⟩ := open_string Tryz.underlying9 (hval 0 _ _ rfl rfl) h0
  obtain ⟨n1, rfl, rfl, rfl, wn1⟩ := Go.ChangeShapes.open_int Tryz.underlying3 (hval 1 _ _ rfl rfl) h1
  have hk := of_decide_eq_true hk
  simp only [List.cons_append, List.nil_append, Rows.uptoBulkAll, Rows.uptoBulk, Array.length_toList] at hk
  have hs0 : t0.size ≤ 1048576 := by
    have e : t0.data.size = t0.size := rfl
    omega
  clear hA0
  refine (ScanEach_calls t0 n1 W (by omega) (env_of hL)).mono fun e W' ⟨he, hb⟩ => ?_
  subst he
  exact ⟨_, rfl, lawPost (by kernel_rfl) rfl rfl Tryz.underlying4 (by kernel_rfl) hW' rfl hb⟩

/-- A world for the witness: the one that the door's own run leaves, the pinned table laid in its place. -/
noncomputable def laidWorld (os : Os) : World :=
  { World.doorLaid Tryz.prog 440 os with heap := (World.doorLaid Tryz.prog 440 os).heap.modify 22 fun
      | .cells _ t frozen => .cells (Lib.firstTab.map fun z => Value.int .u8 z).toArray t frozen
      | o => o }
def zArgs : Array Value := #[.string ⟨#[]⟩, .int .i64 0]
theorem laid_met (os : Os) : laidMetH Tryz.prog Rows.scanEachUptoRow.laid ((laidWorld os).forCall (fun _ _ => 0) ⟨#[], zArgs, []⟩).memory :=
  laidMet_of_run' 8 (by kernel_rfl) (by kernel_rfl)
theorem reads (os : Os) {H : Type} (enc : TypeId × Value → H) : ∃ places, DataW.whole enc Tryz.prog ((laidWorld os).forCall (fun _ _ => 0) ⟨#[], zArgs, []⟩).memory Tryz.f5.params.toList Rows.scanEachSpec.vars false zArgs.toList 8 = some ([.lit (.string []), .lit (.int .i64 0)], [], places) :=
  ⟨[], by kernel_rfl⟩

set_option maxRecDepth 100000 in
theorem lifted (os : Os) (started : os.Started) (H : Type) (enc : TypeId × Value → H) (F : Stop.Interp) :
    ReturnsInHanded {} Tryz.checked os 5 .any ((Rows.OpenSpec.upto Rows.scanEachSpec).preRow enc Tryz.prog Tryz.f5 Rows.scanEachUptoRow.domain false Rows.scanEachUptoRow.laid) (((Rows.OpenSpec.upto Rows.scanEachSpec).at F).post enc Tryz.prog Tryz.f5 false true false false) := by
  obtain ⟨places, hx⟩ := reads os enc
  refine returnsInHanded_of_row (C := Tryz.checked) (s := Rows.OpenSpec.upto Rows.scanEachSpec) own started (by kernel_rfl) Tryz.func5
    (witness_row_atRef (enc := enc) (C := Tryz.checked) false (laidWorld os) zArgs rfl (by kernel_rfl) (by kernel_rfl) (by kernel_rfl)
      (OpenSpec.preRow_of_cond 8 hx (by kernel_rfl) (fun k hk => by cases hk; kernel_rfl) (by kernel_rfl) (laid_met os))) ?_
  intro W base args ds gs before hval hW _ hcond hwt hL _ _
  exact contract H enc W base args ds gs before hval hW hwt hL (hcond _ rfl)

theorem said : Rows.ScanEachUptoSaid :=
  OpenClaim.holds_of_cond 5 Tryz.f5 rfl rfl rfl rfl rfl rfl rfl ⟨rfl, rfl, rfl, rfl, rfl⟩ rfl rfl rfl rfl rfl (by kernel_rfl) Tryz.func5 (by kernel_rfl)
    (of_decide_eq_true (by kernel_rfl)) (by unfold Func.isWrapper; rw [if_neg (of_decide_eq_false (by kernel_rfl))]; exact ⟨rfl, rfl⟩)
    (fun os started H enc _ F => by rw [OpenClaim.pre_eq_preRow]; exact lifted os started H enc F)

theorem plain (f : FuncId) (fn : Func) (hf : Tryz.pinned.checked.prog.funcNamed "vellum/vellumlaw17.ScanEach" = some f) (hfn : Tryz.pinned.checked.prog.funcs[f]? = some fn) :
    true = Tryz.pinned.checked.prog.looks [] ∧ ∀ (j : Nat) t, fn.params[j]? = some t → Tryz.pinned.checked.prog.wantsStandIn t = false := by
  obtain rfl : f = 5 := Option.some.inj ((show Tryz.prog.funcNamed "vellum/vellumlaw17.ScanEach" = some 5 by kernel_rfl).symm.trans hf) |>.symm
  obtain rfl : fn = Tryz.f5 := (Option.some.inj (Tryz.func5.symm.trans hfn)).symm
  refine ⟨by kernel_rfl, fun j t ht => ?_⟩
  have hall : Tryz.f5.params.toList.all (fun t => !Tryz.prog.wantsStandIn t) = true := by kernel_rfl
  have := List.all_eq_true.1 hall t (List.mem_of_getElem? (i := j) (by simpa using ht))
  exact (show Tryz.prog.wantsStandIn t = false by simpa using this)

/-- The card. -/
theorem card : Rows.ScanEachUptoCardSaid :=
  Claim7.holds_tied_plain_at .later [] _ _ _ _ said (fun _ h => by cases h) (by kernel_rfl) (fun _ h => by cases h) scanEachUpto_row_tie rfl ⟨rfl, rfl⟩ (by kernel_rfl) rfl plain (by kernel_rfl)

end Go.Proofs.YtibopkodoidjoaaGreatDoor.lawScanEach
