/- ValuesOrder: the card of the statement, proved. No condition beyond the card's own. (Written by card.py.) -/
import Derived.Test.YtfdhklpabhhjjaaDoorCards
import Derived.Test.YtfdhklpabhhjjaaDoorTie
import Derived.Test.YtfdhklpabhhjjaaDoorLaw
import Derived.Test.YtfdhklpabhhjjaaDoorVOrder
import Derived.SizedLaws
namespace Go.Proofs.YtfdhklpabhhjjaaDoor.lawValuesOrder
open Go Go.RowKit Go.WideShapes Go.ChangeShapes Go.ChangeAt Go.Proofs.YtfdhklpabhhjjaaDoor
open Go.ChangeMaps (open_string shut_string)

theorem own : ownKnob Tryd.prog.godebug = none := by kernel_rfl
theorem env_of {W : World} (h : laidMetH Tryd.prog Rows.valuesOrderRow.laid W) : EnvN (fun k => addrAt W (gErr k)) W.heap.size W := by
  have hL : laidMet Tryd.prog Rows.valuesOrderRow.laid W := laidMet_of_H (by kernel_rfl) h
  have ht : Lib.TabIs Tryd.prog W "internal/strconv.uint64pow10" .u64 Lib.pow10Tab :=
    tab_of hL (List.mem_of_getElem? (i := 2) (by kernel_rfl)) (g := 23) (by kernel_rfl) (by kernel_rfl) Tryd.underlying231 Tryd.underlying155 (by kernel_rfl) (by kernel_rfl)
  refine ⟨env_mk hL (List.mem_of_getElem? (i := 10) (by kernel_rfl)) (List.mem_of_getElem? (i := 3) (by kernel_rfl)) ?_ ?_ (by decide) (by decide), ht, ?_⟩
  · intro k hk
    simp only [SV, List.mem_cons, List.mem_nil_iff, or_false] at hk
    rcases hk with rfl | rfl | rfl | rfl | rfl | rfl
    · exact List.mem_of_getElem? (i := 6) (by kernel_rfl)
    · exact List.mem_of_getElem? (i := 7) (by kernel_rfl)
    · exact List.mem_of_getElem? (i := 8) (by kernel_rfl)
    · exact List.mem_of_getElem? (i := 9) (by kernel_rfl)
    · exact List.mem_of_getElem? (i := 4) (by kernel_rfl)
    · exact List.mem_of_getElem? (i := 5) (by kernel_rfl)
  · intro k hk
    simp only [SV, List.mem_cons, List.mem_nil_iff, or_false] at hk
    rcases hk with rfl | rfl | rfl | rfl | rfl | rfl
    all_goals exact ⟨by kernel_rfl, by kernel_rfl⟩
  · unfold Lib.TabIs World.var? at ht
    have hg : Tryd.prog.globalNamed "internal/strconv.uint64pow10" = some 23 := by kernel_rfl
    rw [hg] at ht
    simp only [Option.bind_some] at ht
    rcases Nat.lt_or_ge 23 W.heap.size with hlt | hge
    · exact hlt
    · rw [Array.getElem?_eq_none hge] at ht; cases ht

set_option maxRecDepth 100000 in
/-- What the walk gives, for every argument. -/
theorem contract (H : Type) (enc : TypeId × Value → H) (W : World) (base : Nat) (args : Array Value) (ds gs : List (DataW H)) (before : List MemPlace)
    (hval : ∀ (j : Nat) t v, Tryd.f8.params[j]? = some t → args[j]? = some v → Value.okWide Tryd.prog W .any base t v)
    (hW : DataW.Whole enc Tryd.prog Tryd.f8.params.toList Rows.valuesOrderSpec.vars false W args.toList ds gs before)
    (hwt : (DataW.weightsEach Tryd.prog (Tryd.f8.params.toList ++ (OpenSpec.ofChange Rows.valuesOrderSpec).bare.plain.varTypes Tryd.prog) (ds ++ gs)).all (· ≤ reachBytes) = true)
    (hL : laidMetH Tryd.prog Rows.valuesOrderRow.laid W) :
    Calls Tryd.prog 8 args W fun e W' => ∃ v, e = .returned v ∧ Rows.valuesOrderSpec.post enc Tryd.prog Tryd.f8 false true false false W args v W' := by
  have hW' := hW
  obtain ⟨p, q, hA0, hV, rfl, hfz, hnd⟩ := hW
  have hA : DataW.TrodAll enc Tryd.prog W 0 (fun _ => true) true Tryd.f8.params.toList args.toList ds p := hA0
  rw [Tryd.params8] at hA hval hwt
  obtain ⟨v0, vs0, d0, ds0, p0, q0, hargs, rfl, rfl, h0, r0⟩ := trodAll_cons hA
  obtain ⟨v1, vs1, d1, ds1, p1, q1, rfl, rfl, rfl, h1, r1⟩ := trodAll_cons r0
  obtain ⟨v2, vs2, d2, ds2, p2, q2, rfl, rfl, rfl, h2, r2⟩ := trodAll_cons r1
  obtain ⟨rfl, rfl, rfl⟩ := trodAll_nil r2
  obtain rfl : args = #[v0, v1, v2] := by cases args; simp_all
  obtain ⟨rfl, rfl⟩ := trodVars_none hV
  obtain ⟨c0, c1, c2, y0, y1, y2, m, rfl, rfl, rfl, hy0, hy1, hy2⟩ := Joins.open_agg3 Tryd.underlying46 (by kernel_rfl) (by kernel_rfl) (hval 0 _ _ rfl rfl) h0
  obtain ⟨k0, e0, _, _⟩ := DataW.trod_int Tryd.underlying3 hy0
  obtain ⟨n0, e1, _, wn0⟩ := DataW.trod_int Tryd.underlying2 hy1
  obtain ⟨t0, e2, ht0, _⟩ := DataW.trod_string Tryd.underlying9 hy2
  simp only [List.cons.injEq, and_true] at e0 e1 e2
  subst e0 e1 e2
  obtain ⟨c0, c1, c2, y0, y1, y2, m, rfl, rfl, rfl, hy0, hy1, hy2⟩ := Joins.open_agg3 Tryd.underlying46 (by kernel_rfl) (by kernel_rfl) (hval 1 _ _ rfl rfl) h1
  obtain ⟨k1, e0, _, _⟩ := DataW.trod_int Tryd.underlying3 hy0
  obtain ⟨n1, e1, _, wn1⟩ := DataW.trod_int Tryd.underlying2 hy1
  obtain ⟨t1, e2, ht1, _⟩ := DataW.trod_string Tryd.underlying9 hy2
  simp only [List.cons.injEq, and_true] at e0 e1 e2
  subst e0 e1 e2
  obtain ⟨c0, c1, c2, y0, y1, y2, m, rfl, rfl, rfl, hy0, hy1, hy2⟩ := Joins.open_agg3 Tryd.underlying46 (by kernel_rfl) (by kernel_rfl) (hval 2 _ _ rfl rfl) h2
  obtain ⟨k2, e0, _, _⟩ := DataW.trod_int Tryd.underlying3 hy0
  obtain ⟨n2, e1, _, wn2⟩ := DataW.trod_int Tryd.underlying2 hy1
  obtain ⟨t2, e2, ht2, _⟩ := DataW.trod_string Tryd.underlying9 hy2
  simp only [List.cons.injEq, and_true] at e0 e1 e2
  subst e0 e1 e2
  rw [ht0, ht1, ht2] at hwt
  simp [DataW.weightsEach, DataW.weights, Tryd.underlying46, reachBytes] at hwt
  have hs0 : t0.size ≤ 140737488351232 := of_decide_eq_true hwt.2.2.1
  have hs1 : t1.size ≤ 140737488351232 := of_decide_eq_true hwt.2.2.2.2.2.1
  have hs2 : t2.size ≤ 140737488351232 := of_decide_eq_true hwt.2.2.2.2.2.2.2.2
  clear hA0
  refine (ValuesOrder_calls k0 n0 t0 k1 n1 t1 k2 n2 t2 W hs0 hs1 hs2 (env_of hL)).mono fun e W' ⟨he, hb⟩ => ?_
  subst he
  exact ⟨_, rfl, lawPost (by kernel_rfl) rfl rfl Tryd.underlying4 (by kernel_rfl) hW' rfl hb⟩

/-- A world for the witness: the one that the door's own run leaves, the pinned table laid in its place. -/
noncomputable def laidWorld (os : Os) : World :=
  { World.doorLaid Tryd.prog 440 os with heap := (World.doorLaid Tryd.prog 440 os).heap.modify 24 fun
      | .cells _ t frozen => .cells (Lib.firstTab.map fun z => Value.int .u8 z).toArray t frozen
      | o => o }
def zArgs : Array Value := #[.agg #[.int .i64 0, .int .i64 0, .string ⟨#[]⟩], .agg #[.int .i64 0, .int .i64 0, .string ⟨#[]⟩], .agg #[.int .i64 0, .int .i64 0, .string ⟨#[]⟩]]
theorem laid_met (os : Os) : laidMetH Tryd.prog Rows.valuesOrderRow.laid ((laidWorld os).forCall (fun _ _ => 0) ⟨#[], zArgs, []⟩).memory :=
  laidMet_of_run' 8 (by kernel_rfl) (by kernel_rfl)
theorem reads (os : Os) {H : Type} (enc : TypeId × Value → H) : ∃ places, DataW.whole enc Tryd.prog ((laidWorld os).forCall (fun _ _ => 0) ⟨#[], zArgs, []⟩).memory Tryd.f8.params.toList Rows.valuesOrderSpec.vars false zArgs.toList 8 = some ([.agg [.lit (.int .i64 0), .lit (.int .i64 0), .lit (.string [])], .agg [.lit (.int .i64 0), .lit (.int .i64 0), .lit (.string [])], .agg [.lit (.int .i64 0), .lit (.int .i64 0), .lit (.string [])]], [], places) :=
  ⟨[], by kernel_rfl⟩

set_option maxRecDepth 100000 in
theorem lifted (os : Os) (started : os.Started) (H : Type) (enc : TypeId × Value → H) (F : Stop.Interp) :
    ReturnsInHanded {} Tryd.checked os 8 .any ((OpenSpec.ofChange Rows.valuesOrderSpec).preRow enc Tryd.prog Tryd.f8 Rows.valuesOrderRow.domain false Rows.valuesOrderRow.laid) (((OpenSpec.ofChange Rows.valuesOrderSpec).at F).post enc Tryd.prog Tryd.f8 false true false false) := by
  obtain ⟨places, hx⟩ := reads os enc
  refine returnsInHanded_of_row (C := Tryd.checked) (s := OpenSpec.ofChange Rows.valuesOrderSpec) own started (by kernel_rfl) Tryd.func8
    (witness_row_atRef (enc := enc) (C := Tryd.checked) false (laidWorld os) zArgs rfl (by kernel_rfl) (by kernel_rfl) (by kernel_rfl)
      (OpenSpec.preRow_of_cond 8 hx (by kernel_rfl) (fun k hk => by cases hk) (by kernel_rfl) (laid_met os))) ?_
  intro W base args ds gs before hval hW _ _ hwt hL _ _
  exact contract H enc W base args ds gs before hval hW hwt hL

theorem said : Rows.ValuesOrderSaid :=
  OpenClaim.holds_of_cond 8 Tryd.f8 rfl rfl rfl rfl rfl rfl rfl ⟨rfl, rfl, rfl, rfl, rfl⟩ rfl rfl rfl rfl rfl (by kernel_rfl) Tryd.func8 (by kernel_rfl)
    (of_decide_eq_true (by kernel_rfl)) (by unfold Func.isWrapper; rw [if_neg (of_decide_eq_false (by kernel_rfl))]; exact ⟨rfl, rfl⟩)
    (fun os started H enc _ F => by rw [OpenClaim.pre_eq_preRow]; exact lifted os started H enc F)

theorem plain (f : FuncId) (fn : Func) (hf : Tryd.pinned.checked.prog.funcNamed "vellum/vellumlaw02.ValuesOrder" = some f) (hfn : Tryd.pinned.checked.prog.funcs[f]? = some fn) :
    true = Tryd.pinned.checked.prog.looks [] ∧ ∀ (j : Nat) t, fn.params[j]? = some t → Tryd.pinned.checked.prog.wantsStandIn t = false := by
  obtain rfl : f = 8 := Option.some.inj ((show Tryd.prog.funcNamed "vellum/vellumlaw02.ValuesOrder" = some 8 by kernel_rfl).symm.trans hf) |>.symm
  obtain rfl : fn = Tryd.f8 := (Option.some.inj (Tryd.func8.symm.trans hfn)).symm
  refine ⟨by kernel_rfl, fun j t ht => ?_⟩
  have hall : Tryd.f8.params.toList.all (fun t => !Tryd.prog.wantsStandIn t) = true := by kernel_rfl
  have := List.all_eq_true.1 hall t (List.mem_of_getElem? (i := j) (by simpa using ht))
  exact (show Tryd.prog.wantsStandIn t = false by simpa using this)

/-- The card. -/
theorem card : Rows.ValuesOrderCardSaid :=
  Claim7.holds_tied_plain_at .later [] _ _ _ _ said (fun _ h => by cases h) (by kernel_rfl) (fun _ h => by cases h) valuesOrder_row_tie rfl ⟨rfl, rfl⟩ (by kernel_rfl) rfl plain (by kernel_rfl)

end Go.Proofs.YtfdhklpabhhjjaaDoor.lawValuesOrder
