/- ValuesPlaysUpto: the card of the statement, proved. No condition beyond the card's own. (Written by card.py.) -/
import Derived.Test.YtfdhklpabhhjjaaGreatDoorCards
import Derived.Test.YtfdhklpabhhjjaaGreatDoorTie
import Derived.Test.YtfdhklpabhhjjaaGreatDoorLaw
import Derived.Test.YtfdhklpabhhjjaaGreatDoorPlays2
import Derived.SizedLaws
namespace Go.Proofs.YtfdhklpabhhjjaaGreatDoor.lawValuesPlays
open Go Go.RowKit Go.WideShapes Go.ChangeShapes Go.ChangeAt Go.Proofs.YtfdhklpabhhjjaaGreatDoor
open Go.ChangeMaps (open_string shut_string)

theorem own : ownKnob Tryz.prog.godebug = none := by kernel_rfl
theorem env_of {W : World} (h : laidMetH Tryz.prog Rows.valuesPlaysUptoRow.laid W) : EnvNN (fun k => addrAt W (gErr k)) W.heap.size W := by
  have hL : laidMet Tryz.prog Rows.valuesPlaysUptoRow.laid W := laidMet_of_H (by kernel_rfl) h
  have ht : Lib.TabIs Tryz.prog W "internal/strconv.uint64pow10" .u64 Lib.pow10Tab :=
    tab_of hL (List.mem_of_getElem? (i := 2) (by kernel_rfl)) (g := 25) (by kernel_rfl) (by kernel_rfl) Tryz.underlying249 Tryz.underlying163 (by kernel_rfl) (by kernel_rfl)
  refine ⟨env_mk hL (List.mem_of_getElem? (i := 25) (by kernel_rfl)) (List.mem_of_getElem? (i := 3) (by kernel_rfl)) ?_ ?_ (by decide) (by decide), ht, ?_⟩
  · intro k hk
    simp only [SVN, List.mem_cons, List.mem_nil_iff, or_false] at hk
    rcases hk with rfl | rfl | rfl | rfl | rfl | rfl | rfl | rfl | rfl | rfl | rfl | rfl | rfl | rfl | rfl | rfl | rfl | rfl | rfl | rfl | rfl
    · exact List.mem_of_getElem? (i := 6) (by kernel_rfl)
    · exact List.mem_of_getElem? (i := 7) (by kernel_rfl)
    · exact List.mem_of_getElem? (i := 8) (by kernel_rfl)
    · exact List.mem_of_getElem? (i := 9) (by kernel_rfl)
    · exact List.mem_of_getElem? (i := 10) (by kernel_rfl)
    · exact List.mem_of_getElem? (i := 11) (by kernel_rfl)
    · exact List.mem_of_getElem? (i := 12) (by kernel_rfl)
    · exact List.mem_of_getElem? (i := 13) (by kernel_rfl)
    · exact List.mem_of_getElem? (i := 14) (by kernel_rfl)
    · exact List.mem_of_getElem? (i := 15) (by kernel_rfl)
    · exact List.mem_of_getElem? (i := 16) (by kernel_rfl)
    · exact List.mem_of_getElem? (i := 17) (by kernel_rfl)
    · exact List.mem_of_getElem? (i := 18) (by kernel_rfl)
    · exact List.mem_of_getElem? (i := 19) (by kernel_rfl)
    · exact List.mem_of_getElem? (i := 20) (by kernel_rfl)
    · exact List.mem_of_getElem? (i := 21) (by kernel_rfl)
    · exact List.mem_of_getElem? (i := 22) (by kernel_rfl)
    · exact List.mem_of_getElem? (i := 23) (by kernel_rfl)
    · exact List.mem_of_getElem? (i := 24) (by kernel_rfl)
    · exact List.mem_of_getElem? (i := 4) (by kernel_rfl)
    · exact List.mem_of_getElem? (i := 5) (by kernel_rfl)
  · intro k hk
    simp only [SVN, List.mem_cons, List.mem_nil_iff, or_false] at hk
    rcases hk with rfl | rfl | rfl | rfl | rfl | rfl | rfl | rfl | rfl | rfl | rfl | rfl | rfl | rfl | rfl | rfl | rfl | rfl | rfl | rfl | rfl
    all_goals exact ⟨by kernel_rfl, by kernel_rfl⟩
  · unfold Lib.TabIs World.var? at ht
    have hg : Tryz.prog.globalNamed "internal/strconv.uint64pow10" = some 25 := by kernel_rfl
    rw [hg] at ht
    simp only [Option.bind_some] at ht
    rcases Nat.lt_or_ge 25 W.heap.size with hlt | hge
    · exact hlt
    · rw [Array.getElem?_eq_none hge] at ht; cases ht

set_option maxRecDepth 100000 in
/-- What the walk gives, for every argument. -/
theorem contract (H : Type) (enc : TypeId × Value → H) (W : World) (base : Nat) (args : Array Value) (ds gs : List (DataW H)) (before : List MemPlace)
    (hval : ∀ (j : Nat) t v, Tryz.f5.params[j]? = some t → args[j]? = some v → Value.okWide Tryz.prog W .any base t v)
    (hW : DataW.Whole enc Tryz.prog Tryz.f5.params.toList Rows.valuesPlaysSpec.vars false W args.toList ds gs before)
    (hwt : (DataW.weightsEach Tryz.prog (Tryz.f5.params.toList ++ (Rows.OpenSpec.upto Rows.valuesPlaysSpec).bare.plain.varTypes Tryz.prog) (ds ++ gs)).all (· ≤ reachBytes) = true)
    (hL : laidMetH Tryz.prog Rows.valuesPlaysUptoRow.laid W) (hk : Rows.uptoSmall H (ds ++ gs) = true) :
    Calls Tryz.prog 5 args W fun e W' => ∃ v, e = .returned v ∧ Rows.valuesPlaysSpec.post enc Tryz.prog Tryz.f5 false true false false W args v W' := by
  have hW' := hW
  obtain ⟨p, q, hA0, hV, rfl, hfz, hnd⟩ := hW
  have hA : DataW.TrodAll enc Tryz.prog W 0 (fun _ => true) true Tryz.f5.params.toList args.toList ds p := hA0
  rw [Tryz.params5] at hA hval hwt
  obtain ⟨v0, vs0, d0, ds0, p0, q0, hargs, rfl, rfl, h0, r0⟩ := trodAll_cons hA
  obtain ⟨v1, vs1, d1, ds1, p1, q1, rfl, rfl, rfl, h1, r1⟩ := trodAll_cons r0
  obtain ⟨rfl, rfl, rfl⟩ := trodAll_nil r1
  obtain rfl : args = #[v0, v1] := by cases args; simp_all
  obtain ⟨rfl, rfl⟩ := trodVars_none hV
  obtain ⟨c0, c1, c2, y0, y1, y2, m, rfl, rfl, rfl, hy0, hy1, hy2⟩ := Joins.open_agg3 Tryz.underlying50 (by kernel_rfl) (by kernel_rfl) (hval 0 _ _ rfl rfl) h0
  obtain ⟨k0, e0, _, _⟩ := DataW.trod_int Tryz.underlying3 hy0
  obtain ⟨n0, e1, _, wn0⟩ := DataW.trod_int Tryz.underlying2 hy1
  obtain ⟨t0, e2, ht0, _⟩ := DataW.trod_string Tryz.underlying9 hy2
  simp only [List.cons.injEq, and_true] at e0 e1 e2
  subst e0 e1 e2
  obtain ⟨c0, c1, c2, y0, y1, y2, m, rfl, rfl, rfl, hy0, hy1, hy2⟩ := Joins.open_agg3 Tryz.underlying50 (by kernel_rfl) (by kernel_rfl) (hval 1 _ _ rfl rfl) h1
  obtain ⟨k1, e0, _, _⟩ := DataW.trod_int Tryz.underlying3 hy0
  obtain ⟨n1, e1, _, wn1⟩ := DataW.trod_int Tryz.underlying2 hy1
  obtain ⟨t1, e2, ht1, _⟩ := DataW.trod_string Tryz.underlying9 hy2
  simp only [List.cons.injEq, and_true] at e0 e1 e2
  subst e0 e1 e2
  rw [ht0, ht1] at hwt
  simp [DataW.weightsEach, DataW.weights, Tryz.underlying50, reachBytes] at hwt
  have hs0 : t0.size ≤ 140737488351232 := of_decide_eq_true hwt.2.2.1
  have hs1 : t1.size ≤ 140737488351232 := of_decide_eq_true hwt.2.2.2.2.2
  have hk := of_decide_eq_true hk
  rw [ht0, ht1] at hk
  simp only [List.cons_append, List.nil_append, Rows.uptoBulkAll, Rows.uptoBulk, Array.length_toList] at hk
  have hs0 : t0.size ≤ 1048576 := by
    have e : t0.data.size = t0.size := rfl
    omega
  have hs1 : t1.size ≤ 1048576 := by
    have e : t1.data.size = t1.size := rfl
    omega
  clear hA0
  refine (ValuesPlays_calls k0 n0 t0 k1 n1 t1 W (by omega) (by omega) (of_wf_lo wn0) (of_wf_hi wn0) (of_wf_lo wn1) (of_wf_hi wn1) (env_of hL)).mono fun e W' ⟨he, hb⟩ => ?_
  subst he
  exact ⟨_, rfl, lawPost (by kernel_rfl) rfl rfl Tryz.underlying4 (by kernel_rfl) hW' rfl hb⟩

/-- A world for the witness: the one that the door's own run leaves, the pinned table laid in its place. -/
noncomputable def laidWorld (os : Os) : World :=
  { World.doorLaid Tryz.prog 440 os with heap := (World.doorLaid Tryz.prog 440 os).heap.modify 23 fun
      | .cells _ t frozen => .cells (Lib.firstTab.map fun z => Value.int .u8 z).toArray t frozen
      | o => o }
def zArgs : Array Value := #[.agg #[.int .i64 0, .int .i64 0, .string ⟨#[]⟩], .agg #[.int .i64 0, .int .i64 0, .string ⟨#[]⟩]]
theorem laid_met (os : Os) : laidMetH Tryz.prog Rows.valuesPlaysUptoRow.laid ((laidWorld os).forCall (fun _ _ => 0) ⟨#[], zArgs, []⟩).memory :=
  laidMet_of_run' 8 (by kernel_rfl) (by kernel_rfl)
theorem reads (os : Os) {H : Type} (enc : TypeId × Value → H) : ∃ places, DataW.whole enc Tryz.prog ((laidWorld os).forCall (fun _ _ => 0) ⟨#[], zArgs, []⟩).memory Tryz.f5.params.toList Rows.valuesPlaysSpec.vars false zArgs.toList 8 = some ([.agg [.lit (.int .i64 0), .lit (.int .i64 0), .lit (.string [])], .agg [.lit (.int .i64 0), .lit (.int .i64 0), .lit (.string [])]], [], places) :=
  ⟨[], by kernel_rfl⟩

set_option maxRecDepth 100000 in
theorem lifted (os : Os) (started : os.Started) (H : Type) (enc : TypeId × Value → H) (F : Stop.Interp) :
    ReturnsInHanded {} Tryz.checked os 5 .any ((Rows.OpenSpec.upto Rows.valuesPlaysSpec).preRow enc Tryz.prog Tryz.f5 Rows.valuesPlaysUptoRow.domain false Rows.valuesPlaysUptoRow.laid) (((Rows.OpenSpec.upto Rows.valuesPlaysSpec).at F).post enc Tryz.prog Tryz.f5 false true false false) := by
  obtain ⟨places, hx⟩ := reads os enc
  refine returnsInHanded_of_row (C := Tryz.checked) (s := Rows.OpenSpec.upto Rows.valuesPlaysSpec) own started (by kernel_rfl) Tryz.func5
    (witness_row_atRef (enc := enc) (C := Tryz.checked) false (laidWorld os) zArgs rfl (by kernel_rfl) (by kernel_rfl) (by kernel_rfl)
      (OpenSpec.preRow_of_cond 8 hx (by kernel_rfl) (fun k hk => by cases hk; kernel_rfl) (by kernel_rfl) (laid_met os))) ?_
  intro W base args ds gs before hval hW _ hcond hwt hL _ _
  exact contract H enc W base args ds gs before hval hW hwt hL (hcond _ rfl)

theorem said : Rows.ValuesPlaysUptoSaid :=
  OpenClaim.holds_of_cond 5 Tryz.f5 rfl rfl rfl rfl rfl rfl rfl ⟨rfl, rfl, rfl, rfl, rfl⟩ rfl rfl rfl rfl rfl (by kernel_rfl) Tryz.func5 (by kernel_rfl)
    (of_decide_eq_true (by kernel_rfl)) (by unfold Func.isWrapper; rw [if_neg (of_decide_eq_false (by kernel_rfl))]; exact ⟨rfl, rfl⟩)
    (fun os started H enc _ F => by rw [OpenClaim.pre_eq_preRow]; exact lifted os started H enc F)

theorem plain (f : FuncId) (fn : Func) (hf : Tryz.pinned.checked.prog.funcNamed "vellum/vellumlaw02.ValuesPlays" = some f) (hfn : Tryz.pinned.checked.prog.funcs[f]? = some fn) :
    true = Tryz.pinned.checked.prog.looks [] ∧ ∀ (j : Nat) t, fn.params[j]? = some t → Tryz.pinned.checked.prog.wantsStandIn t = false := by
  obtain rfl : f = 5 := Option.some.inj ((show Tryz.prog.funcNamed "vellum/vellumlaw02.ValuesPlays" = some 5 by kernel_rfl).symm.trans hf) |>.symm
  obtain rfl : fn = Tryz.f5 := (Option.some.inj (Tryz.func5.symm.trans hfn)).symm
  refine ⟨by kernel_rfl, fun j t ht => ?_⟩
  have hall : Tryz.f5.params.toList.all (fun t => !Tryz.prog.wantsStandIn t) = true := by kernel_rfl
  have := List.all_eq_true.1 hall t (List.mem_of_getElem? (i := j) (by simpa using ht))
  exact (show Tryz.prog.wantsStandIn t = false by simpa using this)

/-- The card. -/
theorem card : Rows.ValuesPlaysUptoCardSaid :=
  Claim7.holds_tied_plain_at .later [] _ _ _ _ said (fun _ h => by cases h) (by kernel_rfl) (fun _ h => by cases h) valuesPlaysUpto_row_tie rfl ⟨rfl, rfl⟩ (by kernel_rfl) rfl plain (by kernel_rfl)

end Go.Proofs.YtfdhklpabhhjjaaGreatDoor.lawValuesPlays
