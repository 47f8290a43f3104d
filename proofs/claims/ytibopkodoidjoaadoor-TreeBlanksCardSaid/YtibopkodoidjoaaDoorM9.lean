/- Lemmas of the proof, put together: As, Lives18, Strs, TreeBlanks. -/
import Derived.Test.YtibopkodoidjoaaDoorM2
import Derived.Stop.Asserts
import Derived.RowKitTokens
import Derived.Test.YtibopkodoidjoaaDoorM8
import Derived.Test.YtibopkodoidjoaaDoorM1
import Derived.SliceStrings

/- errors.As at the target **api.At, the error an *api.At: Go's own text walked. (Lines of the kit's worked example of errors.As, turned to this program.) -/
namespace Go.Proofs.YtibopkodoidjoaaDoor
open Go Go.RowKit Go.Extern.Stop Go.Stop Go.Extern

theorem asvalueOf27 (t : Addr) (w : World) : (ReflectliteValue.unpack (.iface 36 (.pointer (some t)))).run Tryd.prog w
    = .ok (.agg #[.pointer (some ⟨23, 36, none⟩), .pointer (some ⟨w.heap.size, 0, none⟩), .int .u64 150]) (w.alloc (.cells #[.pointer (some t)] 36)) := by kernel_rfl
theorem astype27 (a : Addr) (w : World) : (ReflectliteValue.methodAny (ReflectliteValue.valueError "reflectlite.Value.Type" 0) (fun t _ _ _ => ReflectliteType.toType t) #[.agg #[.pointer (some ⟨23, 36, none⟩), .pointer (some a), .int .u64 150]]).run Tryd.prog w
    = .ok (.iface 99 (.agg #[.pointer (some ⟨23, 36, none⟩)])) w := by kernel_rfl
theorem asmethodKind (d : Nat) (h : Value) (w : World) : (Go.method (d + 8) 99 (.agg #[h]) "Kind").run Tryd.prog w = .ok (96, h) w := by kernel_rfl
theorem askind27 (w : World) : ((ReflectliteType.abiMethod fun t => (fun a : Nat => Value.int IntKind.u8 (a : Int)) <$> Rtype.kind t) #[.pointer (some ⟨23, 36, none⟩)]).run Tryd.prog w = .ok (.int .u8 22) w := by kernel_rfl
theorem askind25 (w : World) : ((ReflectliteType.abiMethod fun t => (fun a : Nat => Value.int IntKind.u8 (a : Int)) <$> Rtype.kind t) #[.pointer (some ⟨23, 34, none⟩)]).run Tryd.prog w = .ok (.int .u8 22) w := by kernel_rfl

theorem rlm (z : Sem Value) (f : TypeId → Addr → Nat → Nat → Sem Value) (v : Value) :
    ReflectliteValue.method z f #[v] = (do match ← ReflectliteValue.parts v with | none => z | some (t, a, fl) => f t a fl (fl % 32)) := rfl
theorem asparts27 (a : Addr) (w : World) : (ReflectliteValue.parts (.agg #[.pointer (some ⟨23, 36, none⟩), .pointer (some a), .int .u64 150])).run Tryd.prog w = .ok (some (36, a, 150)) w := by kernel_rfl
theorem asisNil27 (a p : Addr) (W : World) (ha : W.cell? a = some (.pointer (some p))) :
    (ReflectliteValue.method (ReflectliteValue.valueError "reflectlite.Value.IsNil" 0) ReflectliteValue.isNil #[.agg #[.pointer (some ⟨23, 36, none⟩), .pointer (some a), .int .u64 150]]).run Tryd.prog W = .ok (.bool false) W := by
  rw [rlm]
  simp only [Sem.run_bind, asparts27, Result.andThen]
  simp [ReflectliteValue.isNil, loadVar, isAgg, underlying, Tryd.underlying36, ha, Result.andThen]

theorem asmethodElem (d : Nat) (h : Value) (w : World) : (Go.method (d + 8) 99 (.agg #[h]) "Elem").run Tryd.prog w = .ok (108, .agg #[h]) w := by kernel_rfl
theorem asmethodImplements (d : Nat) (h : Value) (w : World) : (Go.method (d + 8) 99 (.agg #[h]) "Implements").run Tryd.prog w = .ok (109, .agg #[h]) w := by kernel_rfl
theorem asmethodAssignableTo (d : Nat) (h : Value) (w : World) : (Go.method (d + 8) 99 (.agg #[h]) "AssignableTo").run Tryd.prog w = .ok (106, .agg #[h]) w := by kernel_rfl
theorem aselem27 (w : World) : (ReflectliteType.method ReflectliteType.elem #[.agg #[.pointer (some ⟨23, 36, none⟩)]]).run Tryd.prog w = .ok (.iface 99 (.agg #[.pointer (some ⟨23, 34, none⟩)])) w := by kernel_rfl
theorem asimplements25 (w : World) : (ReflectliteType.relation "Implements" ReflectliteType.implements_ #[.agg #[.pointer (some ⟨23, 34, none⟩)], .iface 99 (.agg #[.pointer (some ⟨23, 31, none⟩)])]).run Tryd.prog w = .ok (.bool true) w := by kernel_rfl
theorem astypeOf25 (v : Value) (w : World) : (ReflectliteType.typeOf #[.iface 34 v]).run Tryd.prog w = .ok (.iface 99 (.agg #[.pointer (some ⟨23, 34, none⟩)])) w := by kernel_rfl
theorem asassignable25 (w : World) : (ReflectliteType.relation "AssignableTo" ReflectliteType.assignableTo #[.agg #[.pointer (some ⟨23, 34, none⟩)], .iface 99 (.agg #[.pointer (some ⟨23, 34, none⟩)])]).run Tryd.prog w = .ok (.bool true) w := by kernel_rfl
theorem asvalueOf25 (e : Addr) (w : World) : (ReflectliteValue.unpack (.iface 34 (.pointer (some e)))).run Tryd.prog w
    = .ok (.agg #[.pointer (some ⟨23, 34, none⟩), .pointer (some ⟨w.heap.size, 0, none⟩), .int .u64 150]) (w.alloc (.cells #[.pointer (some e)] 34)) := by kernel_rfl

theorem aselemOf27 (w : World) : (Rtype.elem? 36).run Tryd.prog w = .ok (some 34) w := by kernel_rfl
theorem asmk25 (p : Addr) (w : World) : (ReflectliteValue.mk 34 p ReflectliteValue.flagAddr).run Tryd.prog w = .ok (.agg #[.pointer (some ⟨23, 34, none⟩), .pointer (some p), .int .u64 406]) w := by kernel_rfl
theorem aselemV27 (a p : Addr) (W : World) (ha : W.cell? a = some (.pointer (some p))) :
    (ReflectliteValue.method (ReflectliteValue.valueError "reflectlite.Value.Elem" 0) ReflectliteValue.elem #[.agg #[.pointer (some ⟨23, 36, none⟩), .pointer (some a), .int .u64 150]]).run Tryd.prog W
      = .ok (.agg #[.pointer (some ⟨23, 34, none⟩), .pointer (some p), .int .u64 406]) W := by
  rw [rlm]
  simp only [Sem.run_bind, asparts27, Result.andThen]
  simp [ReflectliteValue.elem, loadVar, isAgg, underlying, Tryd.underlying36, ha, Result.andThen, aselemOf27, asmk25]
theorem rls (v x : Value) : ReflectliteValue.set #[v, x] = (do
    let (some (dst, a, fl), some (src, b, _)) := (← ReflectliteValue.parts v, ← ReflectliteValue.parts x)
      | unsupported (.noEntry "extern/(internal/reflectlite.Value).Set.zeroValue")
    if fl / ReflectliteValue.flagAddr % 2 == 0 then unsupported (.noEntry "extern/(internal/reflectlite.Value).Set.unaddressable")
    let val ← loadVar src b
    if ← Rtype.directlyAssignable dst src then storeVar dst a val
    else if ← Rtype.implements dst src then
      if (← Rtype.kind src) == 20 then
        match val with
        | .nilIface => unsupported (.noEntry "extern/reflectlite: a nil value of one interface type handed on as a value of another")
        | _ => storeVar dst a val
      else storeVar dst a (.iface src val)
    else panicString ("reflectlite.Set: value of type " ++ (← Rtype.spelt src) ++ " is not assignable to type " ++ (← Rtype.spelt dst))
    pure (.tuple #[])) := rfl
theorem asparts25a (a : Addr) (w : World) : (ReflectliteValue.parts (.agg #[.pointer (some ⟨23, 34, none⟩), .pointer (some a), .int .u64 406])).run Tryd.prog w = .ok (some (34, a, 406)) w := by kernel_rfl
theorem asparts25 (a : Addr) (w : World) : (ReflectliteValue.parts (.agg #[.pointer (some ⟨23, 34, none⟩), .pointer (some a), .int .u64 150])).run Tryd.prog w = .ok (some (34, a, 150)) w := by kernel_rfl
theorem asdirect25 (w : World) : (Rtype.directlyAssignable 34 34).run Tryd.prog w = .ok true w := by kernel_rfl
theorem assize25 (w : World) : (sizeOf 34).run Tryd.prog w = .ok 1 w := by kernel_rfl
theorem asset25 (ta b e : Addr) (old : Value) (W : World) (hb : W.cell? b = some (.pointer (some e))) (ht : W.cell? ta = some old) (hf : W.frozen? ta = false) :
    (ReflectliteValue.set #[.agg #[.pointer (some ⟨23, 34, none⟩), .pointer (some ta), .int .u64 406], .agg #[.pointer (some ⟨23, 34, none⟩), .pointer (some b), .int .u64 150]]).run Tryd.prog W
      = .ok (.tuple #[]) (W.setCell ta (.pointer (some e))) := by
  rw [rls]
  simp only [Sem.run_bind, asparts25a, asparts25, Result.andThen]
  simp [ReflectliteValue.flagAddr, loadVar, isAgg, underlying, Tryd.underlying34, hb, Result.andThen, asdirect25, storeVar, Value.cells, storeCells, Addr.add]
  rw [run_store Tryd.prog W ta _ _ (by rfl)]
  simp [ht, hf]

set_option maxHeartbeats 4000000 in
theorem as_hit (e t : Addr) (old : Value) (w : World) (hg : w.cell? ⟨0, 0, none⟩ = some (.iface 99 (.agg #[.pointer (some ⟨23, 31, none⟩)]))) (ht0 : w.cell? t = some old) (hf0 : w.frozen? t = false) :
    Calls Tryd.prog 7 #[.iface 34 (.pointer (some e)), .iface 36 (.pointer (some t))] w fun ev w' => ev = .returned (.bool true) ∧ w' = ((((w.alloc (.cells #[.pointer (some t)] 36)).alloc (.cells #[.pointer (some ⟨23, 36, none⟩), .pointer (some ⟨w.heap.size, 0, none⟩), .int .u64 150] 49)).alloc (.cells #[.pointer (some ⟨23, 36, none⟩), .pointer (some ⟨w.heap.size, 0, none⟩), .int .u64 150] 49)).alloc (.cells #[.pointer (some e)] 34)).setCell t (.pointer (some e)) := by
  have h6 := @run_callFunc_extern Tryd.prog 13 _ (fun args => ReflectliteValue.unpack (args.getD 0 (.tuple #[]))) Tryd.func13 (by kernel_rfl) (by kernel_rfl) (by kernel_rfl) (by kernel_rfl)
  have h7 := @run_callFunc_extern Tryd.prog 14 _ (ReflectliteValue.methodAny (ReflectliteValue.valueError "reflectlite.Value.Type" 0) (fun t _ _ _ => ReflectliteType.toType t)) Tryd.func14 (by kernel_rfl) (by kernel_rfl) (by kernel_rfl) (by kernel_rfl)
  have h8 := @run_callFunc_extern Tryd.prog 15 _ (ReflectliteValue.method (ReflectliteValue.valueError "reflectlite.Value.IsNil" 0) ReflectliteValue.isNil) Tryd.func15 (by kernel_rfl) (by kernel_rfl) (by kernel_rfl) (by kernel_rfl)
  have h27 := @run_callFunc_extern Tryd.prog 96 _ (ReflectliteType.abiMethod fun t => do pure (.int .u8 (← Rtype.kind t))) Tryd.func96 (by kernel_rfl) (by kernel_rfl) (by kernel_rfl) (by kernel_rfl)
  have h37 := @run_callFunc_extern Tryd.prog 108 _ (ReflectliteType.method ReflectliteType.elem) Tryd.func108 (by kernel_rfl) (by kernel_rfl) (by kernel_rfl) (by kernel_rfl)
  have h38 := @run_callFunc_extern Tryd.prog 109 _ (ReflectliteType.relation "Implements" ReflectliteType.implements_) Tryd.func109 (by kernel_rfl) (by kernel_rfl) (by kernel_rfl) (by kernel_rfl)
  have h10 := @run_callFunc_extern Tryd.prog 31 _ ReflectliteType.typeOf Tryd.func31 (by kernel_rfl) (by kernel_rfl) (by kernel_rfl) (by kernel_rfl)
  have h35 := @run_callFunc_extern Tryd.prog 106 _ (ReflectliteType.relation "AssignableTo" ReflectliteType.assignableTo) Tryd.func106 (by kernel_rfl) (by kernel_rfl) (by kernel_rfl) (by kernel_rfl)
  have h11 := @run_callFunc_extern Tryd.prog 32 _ (ReflectliteValue.method (ReflectliteValue.valueError "reflectlite.Value.Elem" 0) ReflectliteValue.elem) Tryd.func32 (by kernel_rfl) (by kernel_rfl) (by kernel_rfl) (by kernel_rfl)
  have h12 := @run_callFunc_extern Tryd.prog 33 _ ReflectliteValue.set Tryd.func33 (by kernel_rfl) (by kernel_rfl) (by kernel_rfl) (by kernel_rfl)
  have tO := astypeOf25
  have mA := asmethodAssignableTo
  have a25 := asassignable25
  have v25 := asvalueOf25
  have f6 := asvalueOf27
  have f7 := astype27
  have mK := asmethodKind
  have mE := asmethodElem
  have mI := asmethodImplements
  have k27 := askind27
  have k25 := askind25
  have e27 := aselem27
  have i25 := asimplements25
  have n8 := asisNil27 ⟨w.heap.size, 0, none⟩ t ((w.alloc (.cells #[.pointer (some t)] 36)).alloc (.cells #[.pointer (some ⟨23, 36, none⟩), .pointer (some ⟨w.heap.size, 0, none⟩), .int .u64 150] 49)) (by simp)
  have hlt : 0 < w.heap.size := by
    rcases Nat.lt_or_ge 0 w.heap.size with h | h
    · exact h
    · simp [World.cell?, Array.getElem?_eq_none h] at hg
  have hg2 : ((w.alloc (.cells #[.pointer (some t)] 36)).alloc (.cells #[.pointer (some ⟨23, 36, none⟩), .pointer (some ⟨w.heap.size, 0, none⟩), .int .u64 150] 49)).cell? ⟨0, 0, none⟩ = some (.iface 99 (.agg #[.pointer (some ⟨23, 31, none⟩)])) := by
    rw [World.cell?_alloc_lt _ _ ⟨0, 0, none⟩ (by simp <;> omega), World.cell?_alloc_lt _ _ ⟨0, 0, none⟩ hlt]; exact hg
  have htl : t.block < w.heap.size := by
    rcases Nat.lt_or_ge t.block w.heap.size with h | h
    · exact h
    · simp [World.cell?, Array.getElem?_eq_none h] at ht0
  have el := aselemV27 ⟨w.heap.size, 0, none⟩ t (((w.alloc (.cells #[.pointer (some t)] 36)).alloc (.cells #[.pointer (some ⟨23, 36, none⟩), .pointer (some ⟨w.heap.size, 0, none⟩), .int .u64 150] 49)).alloc (.cells #[.pointer (some ⟨23, 36, none⟩), .pointer (some ⟨w.heap.size, 0, none⟩), .int .u64 150] 49)) (by rw [World.cell?_alloc_lt _ _ ⟨w.heap.size, 0, none⟩ (by simp; omega)]; simp)
  have st := asset25 t ⟨w.heap.size + 1 + 1 + 1, 0, none⟩ e old ((((w.alloc (.cells #[.pointer (some t)] 36)).alloc (.cells #[.pointer (some ⟨23, 36, none⟩), .pointer (some ⟨w.heap.size, 0, none⟩), .int .u64 150] 49)).alloc (.cells #[.pointer (some ⟨23, 36, none⟩), .pointer (some ⟨w.heap.size, 0, none⟩), .int .u64 150] 49)).alloc (.cells #[.pointer (some e)] 34))
    (by rw [World.cell?_alloc_at _ _ _ _ (by simp)]; rfl)
    (by rw [World.cell?_alloc_lt _ _ t (by simp; omega), World.cell?_alloc_lt _ _ t (by simp; omega), World.cell?_alloc_lt _ _ t (by simp; omega), World.cell?_alloc_lt _ _ t htl]; exact ht0)
    (by rw [World.frozen?_alloc_old _ _ t (by simp; omega), World.frozen?_alloc_old _ _ t (by simp; omega), World.frozen?_alloc_old _ _ t (by simp; omega), World.frozen?_alloc_old _ _ t (Nat.ne_of_lt htl)]; exact hf0)
  go_enter Tryd.func7, Tryd.ntmps7
  go_wp2
  refine wp_loop_rounds 1 ?_
  rw [rounds_succ]
  go_wp2
  go_ret
  exact ⟨rfl, rfl⟩

end Go.Proofs.YtibopkodoidjoaaDoor

/- The statements of chapter 18: errors.As as a contract; lives. -/
namespace Go.Proofs.YtibopkodoidjoaaDoor
open Go Go.RowKit

/-- The package variables, and that of package errors. -/
structure EnvA (A : Nat → Addr) (B : Nat) (w : World) : Prop where
  env : Env A B SVN w
  et : w.cell? ⟨0, 0, none⟩ = some (.iface 99 (.agg #[.pointer (some ⟨23, 31, none⟩)]))
  lt : 0 < B
theorem EnvA.next {A : Nat → Addr} {B : Nat} {w w' : World} (h : EnvA A B w) (hb : Below w.heap.size w w') : EnvA A B w' :=
  ⟨h.env.next hb, (hb.cell (p := ⟨_, _, none⟩) (Nat.lt_of_lt_of_le h.lt h.env.hB)).trans h.et, h.lt⟩
theorem EnvA.below {A : Nat → Addr} {B : Nat} {w w' : World} (h : EnvA A B w) (hb : Below B w w') : EnvA A B w' :=
  ⟨h.env.below hb, (hb.cell (p := ⟨_, _, none⟩) h.lt).trans h.et, h.lt⟩
theorem As_calls {A : Nat → Addr} {B : Nat} (g t : Nat) (old : Value) (w : World) (hE : EnvA A B w) (ht : w.heap[t]? = some (.cells #[old] 34 (0, 0))) :
    Calls Tryd.prog 7 #[.iface 34 (.pointer (some ⟨g, 0, none⟩)), .iface 36 (.pointer (some ⟨t, 0, none⟩))] w fun e w' => e = .returned (.bool true) ∧
      w'.heap[t]? = some (.cells #[.pointer (some ⟨g, 0, none⟩)] 34 (0, 0)) ∧ w.grownBy w' (some t) := by
  refine (as_hit ⟨g, 0, none⟩ ⟨t, 0, none⟩ old w hE.et (cellB ht 0 rfl) (freeB ht 0)).mono ?_
  rintro e w' ⟨rfl, rfl⟩
  refine ⟨rfl, ?_, ?_⟩
  · rw [Lib.heap_setCell_same (i := 0) (box_next (box_next (box_next (box_next ht ((Below.refl _ _).alloc (Nat.le_refl _) _)) ((Below.refl _ _).alloc (Nat.le_refl _) _)) ((Below.refl _ _).alloc (Nat.le_refl _) _)) ((Below.refl _ _).alloc (Nat.le_refl _) _))]
    rfl
  · exact grown_trans (grown_trans (grown_trans (grown_trans (World.grownBy_alloc _ _ _) (World.grownBy_alloc _ _ _)) (World.grownBy_alloc _ _ _)) (World.grownBy_alloc _ _ _)) (grown_set _ _ _ _)
/-- Two errors with places, and the two variables that errors.As fills. -/
structure AsS (A : Nat → Addr) (B : Nat) (w : World) (b1 b2 g1 g2 k : Nat) (p1 p2 : Int) (x1 x2 : Value) (W : World) : Prop where
  env : EnvA A B W
  bel : Below w.heap.size w W
  h1 : W.heap[b1]? = some (.cells #[x1] 34 (0, 0))
  h2 : W.heap[b2]? = some (.cells #[x2] 34 (0, 0))
  a1 : AtB p1 (.iface 173 (.pointer (some (A k)))) g1 W
  a2 : AtB p2 (.iface 173 (.pointer (some (A k)))) g2 W
  lt : w.heap.size ≤ b1 ∧ b1 < b2 ∧ g1 < b1 ∧ g2 < b1 ∧ B ≤ w.heap.size
theorem AsS.next {A : Nat → Addr} {B : Nat} {w : World} {b1 b2 g1 g2 k : Nat} {p1 p2 : Int} {x1 x2 : Value} {W W' : World} (h : AsS A B w b1 b2 g1 g2 k p1 p2 x1 x2 W) (hb : Below W.heap.size W W') : AsS A B w b1 b2 g1 g2 k p1 p2 x1 x2 W' :=
  ⟨h.env.next hb, bcall h.bel hb, box_next h.h1 hb, box_next h.h2 hb, box_next h.a1 hb, box_next h.a2 hb, h.lt⟩
theorem AsS.one {A : Nat → Addr} {B : Nat} {w : World} {b1 b2 g1 g2 k : Nat} {p1 p2 : Int} {x1 x2 y : Value} {W W' : World} (h : AsS A B w b1 b2 g1 g2 k p1 p2 x1 x2 W) (hy : W'.heap[b1]? = some (.cells #[y] 34 (0, 0))) (hg : W.grownBy W' (some b1)) : AsS A B w b1 b2 g1 g2 k p1 p2 y x2 W' := by
  obtain ⟨l1, l2, l3, l4, l5⟩ := h.lt
  have hW := h.bel.size
  have k1 := ltB h.h2
  refine ⟨h.env.below (grown_below hg (by omega) (by omega)), h.bel.trans (grown_below hg (by omega) (by omega)), hy, (hg.block b2 k1 (fun e => by have := Option.some.inj e; omega)).trans h.h2, ?_, ?_, h.lt⟩
  · exact (hg.block g1 (ltB h.a1) (fun e => by have := Option.some.inj e; omega)).trans h.a1
  · exact (hg.block g2 (ltB h.a2) (fun e => by have := Option.some.inj e; omega)).trans h.a2
theorem AsS.two {A : Nat → Addr} {B : Nat} {w : World} {b1 b2 g1 g2 k : Nat} {p1 p2 : Int} {x1 x2 y : Value} {W W' : World} (h : AsS A B w b1 b2 g1 g2 k p1 p2 x1 x2 W) (hy : W'.heap[b2]? = some (.cells #[y] 34 (0, 0))) (hg : W.grownBy W' (some b2)) : AsS A B w b1 b2 g1 g2 k p1 p2 x1 y W' := by
  obtain ⟨l1, l2, l3, l4, l5⟩ := h.lt
  have hW := h.bel.size
  have k1 := ltB h.h1
  refine ⟨h.env.below (grown_below hg (by omega) (by omega)), h.bel.trans (grown_below hg (by omega) (by omega)), (hg.block b1 k1 (fun e => by have := Option.some.inj e; omega)).trans h.h1, hy, ?_, ?_, h.lt⟩
  · exact (hg.block g1 (ltB h.a1) (fun e => by have := Option.some.inj e; omega)).trans h.a1
  · exact (hg.block g2 (ltB h.a2) (fun e => by have := Option.some.inj e; omega)).trans h.a2
theorem AsS.cells {A : Nat → Addr} {B : Nat} {w : World} {b1 b2 g1 g2 k : Nat} {p1 p2 : Int} {x1 x2 : Value} {W : World} (h : AsS A B w b1 b2 g1 g2 k p1 p2 x1 x2 W) :
    W.cell? ⟨b1, 0, none⟩ = some x1 ∧ W.cell? ⟨b2, 0, none⟩ = some x2 ∧ W.cell? ⟨g1, 1, none⟩ = some (.iface 173 (.pointer (some (A k)))) ∧ W.cell? ⟨g2, 1, none⟩ = some (.iface 173 (.pointer (some (A k)))) :=
  ⟨cellB h.h1 0 rfl, cellB h.h2 0 rfl, cellB h.a1 1 rfl, cellB h.a2 1 rfl⟩
def fix1 : ByteArray := ⟨#[91, 49, 44, 32, 34, 97, 34, 93]⟩
def fix2 : ByteArray := ⟨#[32, 123, 125, 32]⟩
theorem fix1_ok : parseS fix1 = .ok (.lst 0 [.num 1 ⟨#[49]⟩, .text 4 ⟨#[97]⟩]) 5 := by kernel_rfl
theorem fix1_form : formS fix1 = ⟨#[91, 49, 44, 34, 97, 34, 93]⟩ := by kernel_rfl
theorem fix2_ok : parseS fix2 = .ok (.obj 1 []) 2 := by kernel_rfl
set_option maxHeartbeats 1000000 in
set_option maxRecDepth 100000 in
theorem lives_calls {A : Nat → Addr} {B : Nat} (w : World) (hE : Env A B SVN w) : Calls Tryd.prog 4 #[] w fun e w' => e = .returned (.bool true) ∧ Below w.heap.size w w' := by
  have F : Hid (∀ w, Env A B SVN w → Calls Tryd.prog 6 #[.string ⟨#[91, 49, 44, 32, 34, 97, 34, 93]⟩] w fun e w' => e = .returned (.tuple #[.string ⟨#[91, 49, 44, 34, 97, 34, 93]⟩, .nilIface]) ∧ Below w.heap.size w w') := Lib.hid (fun w h => by
    refine (Format_calls fix1 w h (by decide)).mono ?_
    rintro e w' ⟨hr, hb⟩
    rw [fix1_ok, fix1_form] at hr
    exact ⟨hr, hb⟩)
  have N : Hid (∀ w, Env A B SVN w → Calls Tryd.prog 9 #[.string ⟨#[32, 123, 125, 32]⟩] w fun e w' => e = .returned (.tuple #[.string ⟨#[111, 98, 106, 101, 99, 116]⟩, .nilIface]) ∧ Below w.heap.size w w') := Lib.hid (fun w h => by
    refine (Name_calls fix2 w h (by decide)).mono ?_
    rintro e w' ⟨hr, hb⟩
    rw [fix2_ok] at hr
    exact ⟨hr, hb⟩)
  go_enter Tryd.func4, Tryd.ntmps4
  (go_wp2_with fail; repeat (any_goals (go_quiet (fail); go_wp2_with fail)))
  refine (F.out _ (hE.next (by repeat (first | assumption | exact Below.refl _ _ | apply Below.drew | apply below_drewN | apply balloc | (refine Below.setCell ?_ (by first | omega | (simp <;> omega)) _))))).mono ?_
  rintro e w1 ⟨rfl, hb⟩
  have hb1 : Below w.heap.size w w1 := bcall (by repeat (first | assumption | exact Below.refl _ _ | apply Below.drew | apply below_drewN | apply balloc | (refine Below.setCell ?_ (by first | omega | (simp <;> omega)) _))) hb
  clear hb
  (go_wp2_with fail; repeat (any_goals (go_quiet (fail); go_wp2_with fail)))
  refine (N.out _ (hE.next hb1)).mono ?_
  rintro e w2 ⟨rfl, hb⟩
  have hb2 : Below w.heap.size w w2 := bcall hb1 hb
  clear hb
  (go_wp2_with fail; repeat (any_goals (go_quiet (fail); go_wp2_with fail)))
  go_ret
  exact ⟨rfl, hb2⟩

end Go.Proofs.YtibopkodoidjoaaDoor

/- A list of texts that came in, as it lies in memory. -/
namespace Go.Proofs.YtibopkodoidjoaaDoor
open Go Go.RowKit Go.WideShapes Go.ChangeShapes Go.ChangeAt

/-- v is a list of texts that lies in w. -/
def StrsAt (w : World) (v : Value) (bs : List ByteArray) : Prop :=
  (bs = [] ∧ ∃ a c, v = .slice a 0 c) ∨ ∃ b off cap, v = .slice (some ⟨b, off, none⟩) bs.length cap ∧ bs.length ≤ cap ∧ cap ≤ maxLen ∧ b < w.heap.size ∧ (∀ i s, bs[i]? = some s → w.cell? ⟨b, off + i, none⟩ = some (.string s)) ∧ ∀ s ∈ bs, s.size ≤ maxLen
theorem StrsAt.next {w w' : World} {v : Value} {bs : List ByteArray} (h : StrsAt w v bs) (hb : Below w.heap.size w w') : StrsAt w' v bs := by
  rcases h with h | ⟨b, off, cap, h1, h2, h3, h4, h5, h6⟩
  · exact Or.inl h
  · exact Or.inr ⟨b, off, cap, h1, h2, h3, Nat.lt_of_lt_of_le h4 hb.size, fun i z hz => (hb.cell (p := ⟨b, off + i, none⟩) h4).trans (h5 i z hz), h6⟩
theorem StrsAt.form {w : World} {v : Value} {bs : List ByteArray} (h : StrsAt w v bs) : ∃ a c, v = .slice a bs.length c := by
  rcases h with ⟨rfl, a, c, rfl⟩ | ⟨b, off, cap, rfl, _⟩
  · exact ⟨a, c, rfl⟩
  · exact ⟨_, _, rfl⟩
theorem StrsAt.le {w : World} {v : Value} {bs : List ByteArray} (h : StrsAt w v bs) : bs.length ≤ 9223372036854775807 := by
  rcases h with ⟨rfl, _⟩ | ⟨b, off, cap, rfl, h1, h2, _⟩
  · exact Nat.zero_le _
  · unfold maxLen at h2; omega
theorem cells_str : Tryd.prog.cellsOf 9 = 1 := by kernel_rfl
set_option maxRecDepth 100000 in
theorem strs_of {H : Type} {enc : TypeId × Value → H} {W : World} {base : Nat} {v : Value} {d : DataW H} {ps : List MemPlace} (hval : Value.okWide Tryd.prog W .any base 22 v) (h : DataW.Trod enc Tryd.prog W 0 (fun _ => true) true 22 v d ps) : ∃ bs, StrsAt W v bs := by
  obtain ⟨fuel, hf⟩ := h
  obtain ⟨a0, len, cap, rfl⟩ := okWide_slice Tryd.underlying22 hval
  rcases open_strings Tryd.underlying22 Tryd.underlying9 cells_str hf with ⟨hcs, hx⟩ | ⟨a, len', cap', ss, hcs, _, hl, hm, hz, hx, hcell, hwz⟩
  · simp [Value.cells] at hcs
    obtain ⟨rfl, rfl, rfl⟩ := hcs
    exact ⟨[], Or.inl ⟨rfl, _, _, rfl⟩⟩
  · simp [Value.cells] at hcs
    obtain ⟨rfl, rfl, rfl⟩ := hcs
    simp only [if_true] at hz
    by_cases h0 : len = 0
    · subst h0
      exact ⟨[], Or.inl ⟨rfl, _, _, rfl⟩⟩
    · obtain ⟨b, off, spot⟩ := a
      have hspot : spot = none := by simpa [Addr.add] using World.cell?_spot (hcell 0 (by omega))
      subst hspot
      have hlt := World.block_lt_of_cell? W _ (hcell 0 (by omega))
      have hlen : (ss.take len).length = len := by rw [List.length_take]; omega
      refine ⟨ss.take len, Or.inr ⟨b, off, cap, by rw [hlen], by rw [hlen]; exact hl, hm, by simpa [Addr.add] using hlt, fun i z hi => ?_, fun s hs => hwz s (List.mem_of_mem_take hs)⟩⟩
      have hil : i < len := by
        rcases Nat.lt_or_ge i (ss.take len).length with h | h
        · omega
        · rw [List.getElem?_eq_none h] at hi; cases hi
      rw [List.getElem?_take_of_lt hil] at hi
      have := hcell i (by omega)
      have e : (⟨b, off, none⟩ : Addr).add i = ⟨b, off + i, none⟩ := by simp only [Addr.add]; split <;> simp_all
      rw [e] at this
      rw [this]
      simp [List.getD, hi]

end Go.Proofs.YtibopkodoidjoaaDoor

/- TreeBlanks: the law walked: it answers true. -/
namespace Go.Proofs.YtibopkodoidjoaaDoor
open Go Go.RowKit

theorem conv_one (W : World) (c : UInt8) : (convert 29 9 (.slice (some ⟨W.heap.size, 0, none⟩) 1 1)).run Tryd.prog (W.alloc (.cells #[.int .u8 (c.toNat : Int)] 5 (0, 0))) = .ok (.string ⟨#[c]⟩) (W.alloc (.cells #[.int .u8 (c.toNat : Int)] 5 (0, 0))) :=
  conv_own (OwnB.lit (w := W) (base := W.heap.size) [c] _ rfl (Nat.le_refl _) (by simp [maxLen]) rfl rfl)
theorem cat_mk (l m : List UInt8) : (⟨l.toArray⟩ : ByteArray) ++ ⟨m.toArray⟩ = ⟨(l ++ m).toArray⟩ := by
  apply ByteArray.ext
  simp
theorem blk_at4 (c : Nat) : ∀ h, (((⟨#[32, 9, 10, 13]⟩ : ByteArray)[c % 4]'h).toNat : Int) = ((blkB c).toNat : Int) := fun h => by
  rw [bAt_eq]
  have : c % 4 = 0 ∨ c % 4 = 1 ∨ c % 4 = 2 ∨ c % 4 = 3 := by omega
  unfold blkB
  rcases this with e | e | e | e <;> (rw [e]; rfl)
theorem cat_one (l : List UInt8) (c : UInt8) : (⟨l.toArray⟩ : ByteArray) ++ ⟨#[c]⟩ = ⟨(l ++ [c]).toArray⟩ := cat_mk l [c]
theorem cat_one2 (l : List UInt8) : (⟨l.toArray⟩ : ByteArray) ++ ⟨#[32]⟩ = ⟨(l ++ [32]).toArray⟩ := cat_mk l [32]
theorem empty_is {b : ByteArray} (h : b.size = 0) : b.toList.isEmpty = true := by
  have h1 : b.data = #[] := Array.eq_empty_of_size_eq_zero h
  have : b = ⟨#[]⟩ := ByteArray.ext h1
  subst this
  rw [toL]; rfl
theorem empty_not {b : ByteArray} (h : b.size ≠ 0) : b.toList.isEmpty = false := by
  rw [toL]
  have hl : b.data.toList.length = b.size := by rw [Array.length_toList]; rfl
  cases hd : b.data.toList with
  | nil => rw [hd] at hl; exact absurd hl.symm h
  | cons c l => rfl
set_option maxHeartbeats 4000000 in
set_option maxRecDepth 100000 in
theorem TreeBlanks_calls {A : Nat → Addr} {B : Nat} (s : ByteArray) (bv : Value) (bs : List ByteArray) (w : World) (hg : StrsAt w bv bs) (hE : EnvA A B w) :
    Calls Tryd.prog 3 #[.string s, bv] w fun e w' => e = .returned (.bool true) ∧ Below w.heap.size w w' := by
  have L := Lib.hid (fun w hE => lives_calls (A := A) (B := B) w hE)
  replace hE := Lib.hid hE
  by_cases hbig : 2000 < s.size
  · have hbig' : (2000 : Int) < (s.size : Int) := by omega
    obtain ⟨ga, gc, rfl⟩ := hg.form
    replace hg := Lib.hid hg
    go_enter Tryd.func3, Tryd.ntmps3
    (go_wp2_with fail; repeat (any_goals (go_quiet (fail); go_wp2_with fail)))
    refine (L.out _ (hE.out.env.next (by repeat (first | assumption | exact Below.refl _ _ | apply Below.drew | apply below_drewN | apply balloc | (refine Below.setCell ?_ (by first | omega | (simp <;> omega)) _))))).mono ?_
    rintro e w1 ⟨rfl, hb⟩
    have hb1 : Below w.heap.size w w1 := bcall (by repeat (first | assumption | exact Below.refl _ _ | apply Below.drew | apply below_drewN | apply balloc | (refine Below.setCell ?_ (by first | omega | (simp <;> omega)) _))) hb
    clear hb
    (go_wp2_with fail; repeat (any_goals (go_quiet (fail); go_wp2_with fail)))
    go_ret
    exact ⟨rfl, hb1⟩
  have hbig' : ¬ (2000 : Int) < (s.size : Int) := by omega
  have hs : s.size ≤ 2000 := by omega
  have S := Lib.hid (fun w => rScan_calls s w (by omega))
  obtain ⟨n0, hn0⟩ : ∃ n, n = bs.length := ⟨_, rfl⟩
  have hnle := hg.le
  obtain ⟨ga, gc, rfl⟩ := hg.form
  rw [← hn0] at hg hnle ⊢
  have hnle' : (n0 : Int) ≤ 9223372036854775807 := by omega
  replace hg := Lib.hid hg
  replace hn0 := Lib.hid hn0
  by_cases h0 : (someS s).2.1 = 0
  · have hsame := Lib.hid (spaced_same h0 bs)
    obtain ⟨hu, hch, hx⟩ := some_chain h0
    clear hx
    have hv0 := Lib.hid ((utfE_brk s).1 hu)
    have hlen := Lib.hid (chain_len _ 0 hv0.out (Nat.zero_le _) hch)
    have hbd := Lib.hid (chain_bd _ 0 hv0.out (Nat.zero_le _) hch)
    have hspd : Hid (spacedS s bs = ⟨(spacedK s bs (someS s).1 ++ [10]).toArray⟩) := Lib.hid rfl
    replace hu := Lib.hid hu
    replace hch := Lib.hid hch
    generalize hR : someS s = R at *
    replace hR := Lib.hid hR
    go_enter Tryd.func3, Tryd.ntmps3
    (go_wp2_with fail; repeat (any_goals (go_quiet (fail); go_wp2_with fail)))
    refine (L.out _ (hE.out.env.next (by repeat (first | assumption | exact Below.refl _ _ | apply Below.drew | apply below_drewN | apply balloc | (refine Below.setCell ?_ (by first | omega | (simp <;> omega)) _))))).mono ?_
    rintro e w1 ⟨rfl, hb⟩
    have hb1 : Below w.heap.size w w1 := bcall (by repeat (first | assumption | exact Below.refl _ _ | apply Below.drew | apply below_drewN | apply balloc | (refine Below.setCell ?_ (by first | omega | (simp <;> omega)) _))) hb
    clear hb
    (go_wp2_with fail; repeat (any_goals (go_quiet (fail); go_wp2_with fail)))
    refine (S.out _).mono ?_
    rintro e w2 ⟨⟨v1, rfl, ho1, _⟩, hb⟩
    have hb2 : Below w.heap.size w w2 := bcall hb1 hb
    clear hb S
    rw [if_pos h0] at ho1
    simp only [h0, if_true]
    replace h0 := Lib.hid h0
    obtain ⟨la, lc, rfl⟩ := ho1.form2
    obtain ⟨n, hn⟩ : ∃ n, n = R.1.length := ⟨_, rfl⟩
    rw [← hn] at ho1 ⊢
    have hnle2 : (n : Int) ≤ 2000 := by have := hlen.out; omega
    replace hn := Lib.hid hn
    replace ho1 := Lib.hid ho1
    by_cases hm0 : n0 = 0
    · subst hm0
      (go_wp2_with fail; repeat (any_goals (go_quiet (fail); go_wp2_with fail)))
      go_ret
      exact ⟨rfl, hb2⟩
    have hm0' : ((n0 : Int) == 0) = false := by simp; omega
    have hm1 : ¬ (n0 : Int) = 0 := by omega
    replace hm0 := Lib.hid hm0
    go_wp2_with fail
    rw [show decide ((2000 : Int) < (s.size : Int)) = false from decide_eq_false (by omega), show ((0 : Nat) : Int) = 0 from rfl]
    go_loopw [44, 9] (fun v44 v9 wr => ∃ i : Nat, i ≤ n ∧ v44 = .int .i64 (i : Int) ∧ (∃ P : ByteArray, v9 = .string P ∧ Hid (P = ⟨(spacedK s bs (R.1.take i)).toArray⟩)) ∧ Below w2.heap.size w2 wr) (fun v _ _ => n - (intOf v).toNat)
    case atStart => exact ⟨0, Nat.zero_le _, rfl, ⟨_, rfl, Lib.hid rfl⟩, Below.refl _ _⟩
    case round =>
      obtain ⟨i, hi, rfl, ⟨P, rfl, hP⟩, hB⟩ := hrel
      obtain ⟨wo, rfl⟩ : ∃ wo : World, wo = wr := ⟨_, rfl⟩
      have hBw : Below w.heap.size w wo := bcall hb2 hB
      by_cases hlt : i < n
      · have hltI : (i : Int) < (n : Int) := by omega
        obtain ⟨T, hT⟩ : ∃ T, R.1[i]? = some T := ⟨R.1[i]'(by rw [← hn.out]; exact hlt), List.getElem?_eq_getElem _⟩
        obtain ⟨g, rfl⟩ : ∃ g, la = some ⟨g, 0, none⟩ := by
          rcases ho1.out.form with ⟨h, _⟩ | ⟨g, cap, h, _⟩
          · rw [h] at hT; simp at hT
          · cases h; exact ⟨g, rfl⟩
        obtain ⟨y0, y1, y2, y3⟩ := (ho1.out.next hB).at hT
        have hTb := hbd.out T (List.mem_of_getElem? hT)
        have hft : (T.fr : Int) ≤ (T.to : Int) := by omega
        have hts : (T.to : Int) ≤ (s.size : Int) := by omega
        have htk : R.1.take (i + 1) = R.1.take i ++ [T] := by
          have hil : i < R.1.length := by rw [← hn.out]; exact hlt
          rw [List.take_succ_eq_append_getElem hil]
          rw [List.getElem?_eq_getElem hil] at hT
          cases hT; rfl
        have htl : (R.1.take i).length = i := by rw [List.length_take, ← hn.out]; omega
        have hPl : P.size ≤ 4018000 := by
          rw [hP.out, size_mk]
          have h1 := spacedK_len s bs 2000 hs (R.1.take i) 0
          rw [htl] at h1
          have h2 := Nat.mul_le_mul (show i ≤ 2000 by omega) (Nat.le_refl (2000 + 9))
          have h3 : (spacedK s bs (R.1.take i)).length = (layL s [] (itemsS bs 0 (R.1.take i))).length := rfl
          omega
        obtain ⟨b, hbb⟩ : ∃ b, b = bs.getD (i % bs.length) noS := ⟨_, rfl⟩
        have hstep := Lib.hid (spacedK_snoc s bs (R.1.take i) T)
        rw [← htk, htl, ← hbb] at hstep
        have hm : i % n0 < n0 := Nat.mod_lt _ (by have := hm0.out; omega)
        have hget : bs[i % n0]? = some b := by
          rw [hbb, hn0.out, List.getD_eq_getElem?_getD]
          have : i % bs.length < bs.length := by rw [← hn0.out]; exact hm
          rw [List.getElem?_eq_getElem this]; rfl
        obtain ⟨gb, off, rfl, hread, hbsz⟩ : ∃ b' off, ga = some ⟨b', off, none⟩ ∧ Hid (∀ W, Below w.heap.size w W → W.cell? ⟨b', off + i % n0, none⟩ = some (.string b)) ∧ b.size ≤ maxLen := by
          rcases hg.out with ⟨h, _⟩ | ⟨b', off, cap, h1, _, _, h4, h5, h6⟩
          · rw [h] at hget; simp at hget
          · injection h1 with e1 e2 e3
            exact ⟨b', off, e1, Lib.hid (fun W hW => (hW.cell (p := ⟨b', off + i % n0, none⟩) h4).trans (h5 _ b hget)), h6 b (List.mem_of_getElem? hget)⟩
        unfold maxLen at hbsz
        have hbszI : (b.size : Int) ≤ 9223372036854775807 := by omega
        have hrd := hread.out wo hBw
        have hgbl : gb < wo.heap.size := World.block_lt_of_cell? wo _ hrd
        have q1 : ((i : Int) % (n0 : Int)).toNat = i % n0 := by omega
        have q2 : 0 ≤ (i : Int) % (n0 : Int) := by omega
        have q3 : (i : Int) % (n0 : Int) < (n0 : Int) := by omega
        have hn0p : (0 : Int) < (n0 : Int) := by omega
        replace hTb := Lib.hid hTb
        replace hT := Lib.hid hT
        replace htk := Lib.hid htk
        replace htl := Lib.hid htl
        replace hbb := Lib.hid hbb
        replace hget := Lib.hid hget
        go_wp2_with fail
        have hx0 : TokHeld wo.heap.size T (wo.alloc (.cells #[.int .i64 (T.kind : Int), .int .i64 (T.fr : Int), .int .i64 (T.to : Int), .string T.text] 28 (0, 0))) := heap_alloc_new wo _
        have hB0 : Below w2.heap.size w2 (wo.alloc (.cells #[.int .i64 (T.kind : Int), .int .i64 (T.fr : Int), .int .i64 (T.to : Int), .string T.text] 28 (0, 0))) := balloc hB
        have cv := conv_one
        obtain ⟨K, hK⟩ : ∃ K, K = min b.size 9 := ⟨_, rfl⟩
        have hK9 : K ≤ 9 := by omega
        have hKb : K ≤ b.size := by omega
        have hK3 : K = 9 ∨ K = b.size := by omega
        go_loopw [13, 9] (fun v13 v9 wx => ∃ k : Nat, k ≤ K ∧ v13 = .int .i64 (k : Int) ∧ (∃ P' : ByteArray, v9 = .string P' ∧ Hid (P' = P ++ ⟨(gapK b k).toArray⟩)) ∧ Hid (TokHeld wo.heap.size T wx) ∧ Below w2.heap.size w2 wx) (fun v _ _ => K - (intOf v).toNat)
        case atStart => exact ⟨0, Nat.zero_le _, rfl, ⟨P, rfl, Lib.hid (by rw [gapK_zero]; apply ByteArray.ext; simp)⟩, Lib.hid hx0, hB0⟩
        case round =>
          clear hx0 hB0 y0 y1 y2 y3 hrd q1 q2 q3
          obtain ⟨k, hk, rfl, ⟨P', rfl, hP'⟩, hx, hBx⟩ := hrel
          have hzx := hBx.size
          have hPl' : P'.size ≤ 4018009 := by rw [hP'.out, ByteArray.size_append, size_mk (gapK b k), gapK_len]; omega
          by_cases hkl : k < K
          · have hk1 : (k : Int) < (b.size : Int) := by omega
            have hk2 : (k : Int) < 9 := by omega
            have hbk := byte_at b k
            have hb4 := blk_at4 (bAt b k)
            have hbl := bAt_lt b k
            have q4 : ((bAt b k : Int) % 4).toNat = bAt b k % 4 := by omega
            have q5 : 0 ≤ (bAt b k : Int) % 4 := by omega
            have q6 : (bAt b k : Int) % 4 < 4 := by omega
            have n1 : ¬ 9223372036854775807 < P'.size + 1 := by omega
            go_wp2_with fail
            go_roundw
            case measure => simp [intOf]; omega
            case rel => exact ⟨k + 1, by omega, by go_num, ⟨_, rfl, Lib.hid (by rw [hP'.out, gapK_succ, ByteArray.append_assoc, cat_one])⟩, Lib.hid (hx.out.alloc _), balloc hBx⟩
          · have hkK : k = K := by omega
            have x1 := cellB hx.out 1 rfl
            have x2 := cellB hx.out 2 rfl
            have hlx := ltB hx.out
            have hmin : min T.to s.size - T.fr ≤ 2000 := by omega
            have n1 : ¬ 9223372036854775807 < P'.size + 1 := by omega
            have n2 : ¬ 9223372036854775807 < P'.size + (min T.to s.size - T.fr) := by omega
            have n3 : ¬ 9223372036854775807 < P'.size + 1 + (min T.to s.size - T.fr) := by omega
            by_cases hb0 : b.size = 0
            · have g1 : ¬ (k : Int) < (b.size : Int) := by omega
              have hem : b.toList.isEmpty = true := empty_is hb0
              have hgap : Hid (gapB b = [32] ∧ k = 0) := Lib.hid ⟨by unfold gapB; rw [if_pos hb0], by omega⟩
              clear hKb hK3 hK9
              replace hK := Lib.hid hK
              replace hb0 := Lib.hid hb0
              go_wp2_with fail
              go_roundw
              case measure => simp [intOf]; omega
              case rel => exact ⟨i + 1, by omega, by go_num, ⟨_, rfl, Lib.hid (by rw [hstep.out, hgap.out.1, hP'.out, hgap.out.2, gapK_zero, hP.out, seg_ext, cat_mk, cat_one2, cat_mk]; simp)⟩, hBx⟩
            · have hem : b.toList.isEmpty = false := empty_not hb0
              have hgap : Hid (gapB b = gapK b k) := Lib.hid (by unfold gapB; rw [if_neg hb0]; congr 1; omega)
              replace hb0 := Lib.hid hb0
              rcases hK3 with h9 | h9
              · have g2 : ¬ (k : Int) < 9 := by omega
                have g3 : (k : Int) ≤ (b.size : Int) := by omega
                clear hKb hK9
                replace hK := Lib.hid hK
                replace h9 := Lib.hid h9
                go_wp2_with fail
                all_goals
                  go_roundw
                  case measure => simp [intOf]; omega
                  case rel => exact ⟨i + 1, by omega, by go_num, ⟨_, rfl, Lib.hid (by rw [hstep.out, hgap.out, hP'.out, hP.out, seg_ext, cat_mk, cat_mk]; simp)⟩, hBx⟩
              · have g1 : ¬ (k : Int) < (b.size : Int) := by omega
                clear hKb hK9
                replace hK := Lib.hid hK
                replace h9 := Lib.hid h9
                go_wp2_with fail
                go_roundw
                case measure => simp [intOf]; omega
                case rel => exact ⟨i + 1, by omega, by go_num, ⟨_, rfl, Lib.hid (by rw [hstep.out, hgap.out, hP'.out, hP.out, seg_ext, cat_mk, cat_mk]; simp)⟩, hBx⟩
      · have hall : R.1.take i = R.1 := List.take_of_length_le (by rw [← hn.out]; omega)
        have hPl : P.size ≤ 4018000 := by
          rw [hP.out, size_mk, hall]
          have h1 := spacedK_len s bs 2000 hs R.1 0
          have h2 := Nat.mul_le_mul (show R.1.length ≤ 2000 by rw [← hn.out]; omega) (Nat.le_refl (2000 + 9))
          have h3 : (spacedK s bs R.1).length = (layL s [] (itemsS bs 0 R.1)).length := rfl
          omega
        have hPS : spacedS s bs = P ++ ⟨#[10]⟩ := by rw [hP.out, hall, hspd.out]; exact (cat_mk _ [10]).symm
        have hform := same_form hsame.out
        have hsm := hsame.out
        rw [hPS] at hform hsm
        have FS := Lib.hid (fun w hE => Format_calls (A := A) (B := B) s w hE (by omega))
        have FT := Lib.hid (fun w hE => Format_calls (A := A) (B := B) (P ++ ⟨#[10]⟩) w hE (by rw [ByteArray.size_append]; show P.size + 1 ≤ _; omega))
        have hk : ∀ k pl, parseS s = .err k pl → k = 2 ∨ k = 3 ∨ k = 6 := by
          intro k pl h
          unfold parseS at h
          rw [hR.out, if_pos h0.out] at h
          have := pP_fits s R.1
          rw [h] at this
          exact this
        have n1 : ¬ 9223372036854775807 < P.size + 1 := by omega
        rw [hform] at FT
        generalize formS s = F at *
        generalize parseS s = r at *
        generalize parseS (P ++ ⟨#[10]⟩) = r' at *
        replace hall := Lib.hid hall
        replace hPS := Lib.hid hPS
        replace hform := Lib.hid hform
        cases r with
        | out => 
          replace hk := Lib.hid hk
          replace hsm := Lib.hid hsm
          go_wp2_with fail
          refine (FS.out _ (hE.out.env.next hBw)).mono ?_
          rintro e w3 ⟨hr, _⟩
          exact hr.elim
        | ok x q =>
          cases r' with
          | out => exact hsm.elim
          | err k pl => exact hsm.elim
          | ok x' q' =>
            replace hk := Lib.hid hk
            replace hsm := Lib.hid hsm
            go_wp2_with fail
            refine (FS.out _ (hE.out.env.next hBw)).mono ?_
            rintro e w3 ⟨rfl, hb⟩
            have hb3 := bcall hBw hb
            clear hb
            go_wp2_with fail
            refine (FT.out _ (hE.out.env.next hb3)).mono ?_
            rintro e w4 ⟨rfl, hb⟩
            have hb4 := bcall hb3 hb
            clear hb
            go_wp2_with fail
            go_ret
            exact ⟨rfl, hb4⟩
        | err k pl =>
          cases r' with
          | out => exact hsm.elim
          | ok x' q' => exact hsm.elim
          | err k' pl' =>
            obtain rfl : k' = k := hsm
            have hk1 := hk k' pl rfl
            clear hk
            have hk2 : 1 ≤ k' := by omega
            have hk3 : k' ≤ 19 := by omega
            replace hk1 := Lib.hid hk1
            go_wp2_with fail
            refine (FS.out _ (hE.out.env.next hBw)).mono ?_
            rintro e w3 ⟨⟨g1, hg1, rfl, hat1⟩, hb⟩
            have hb3 := bcall hBw hb
            clear hb
            replace hat1 := Lib.hid hat1
            go_wp2_with fail
            refine (FT.out _ (hE.out.env.next hb3)).mono ?_
            rintro e w4 ⟨⟨g2, hg2, rfl, hat2⟩, hb⟩
            have hb4 := bcall hb3 hb
            have hat1 := Lib.hid (box_next hat1.out hb)
            clear hb
            replace hat2 := Lib.hid hat2
            go_wp2_with fail
            have hz4 := hb4.size
            have hl1 := ltB hat1.out
            have hl2 := ltB hat2.out
            have hBw0 := hE.out.env.hB
            have hX : AsS A B w w4.heap.size (w4.heap.size + 1) g1 g2 k' (pl : Int) (pl' : Int) (.pointer none) (.pointer none) ((w4.alloc (.cells #[.pointer none] 34 (0, 0))).alloc (.cells #[.pointer none] 34 (0, 0))) :=
              ⟨hE.out.next (balloc (balloc hb4)), balloc (balloc hb4), old2 w4 _ _, new2 w4 _ _, box_next (box_next hat1.out ((Below.refl _ _).alloc (Nat.le_refl _) _)) ((Below.refl _ _).alloc (Nat.le_refl _) _), box_next (box_next hat2.out ((Below.refl _ _).alloc (Nat.le_refl _) _)) ((Below.refl _ _).alloc (Nat.le_refl _) _), by omega, by omega, by omega, by omega, by omega⟩
            have A1 : Hid (∀ W x2, AsS A B w w4.heap.size (w4.heap.size + 1) g1 g2 k' (pl : Int) (pl' : Int) (.pointer none) x2 W → Calls Tryd.prog 7 #[.iface 34 (.pointer (some ⟨g1, 0, none⟩)), .iface 36 (.pointer (some ⟨w4.heap.size, 0, none⟩))] W fun e W' => e = .returned (.bool true) ∧ AsS A B w w4.heap.size (w4.heap.size + 1) g1 g2 k' (pl : Int) (pl' : Int) (.pointer (some ⟨g1, 0, none⟩)) x2 W') :=
              Lib.hid (fun W x2 h => (As_calls g1 w4.heap.size _ W h.env h.h1).mono (fun e W' ⟨he, hy, hg⟩ => ⟨he, h.one hy hg⟩))
            have A2 : Hid (∀ W x1, AsS A B w w4.heap.size (w4.heap.size + 1) g1 g2 k' (pl : Int) (pl' : Int) x1 (.pointer none) W → Calls Tryd.prog 7 #[.iface 34 (.pointer (some ⟨g2, 0, none⟩)), .iface 36 (.pointer (some ⟨w4.heap.size + 1, 0, none⟩))] W fun e W' => e = .returned (.bool true) ∧ AsS A B w w4.heap.size (w4.heap.size + 1) g1 g2 k' (pl : Int) (pl' : Int) x1 (.pointer (some ⟨g2, 0, none⟩)) W') :=
              Lib.hid (fun W x1 h => (As_calls g2 (w4.heap.size + 1) _ W h.env h.h2).mono (fun e W' ⟨he, hy, hg⟩ => ⟨he, h.two hy hg⟩))
            have NU : Hid (∀ W x1 x2, AsS A B w w4.heap.size (w4.heap.size + 1) g1 g2 k' (pl : Int) (pl' : Int) x1 x2 W → Calls Tryd.prog 8 #[.iface 173 (.pointer (some (A k')))] W fun e W' => e = .returned (.int .i64 k') ∧ AsS A B w w4.heap.size (w4.heap.size + 1) g1 g2 k' (pl : Int) (pl' : Int) x1 x2 W') :=
              Lib.hid (fun W x1 x2 h => (Num_err k' W hk2 hk3 h.env.env).mono (fun e W' ⟨he, hb⟩ => ⟨he, h.next hb⟩))
            generalize (w4.alloc (.cells #[.pointer none] 34 (0, 0))).alloc (.cells #[.pointer none] 34 (0, 0)) = X at *
            have hXd : AsS A B w w4.heap.size (w4.heap.size + 1) g1 g2 k' (pl : Int) (pl' : Int) (.pointer none) (.pointer none) X.drew := hX.next (below_drewN (Below.refl _ _) 1)
            clear hX hl1 hl2 hz4 hat1 hat2 FS FT L hk2 hk3
            go_region_with (first
              | (go_at_call 7; (with_reducible refine (A1.out _ _ (by assumption)).mono ?_); rintro e W1 ⟨rfl, hS⟩; obtain ⟨c1, c2, c3, c4⟩ := hS.cells)
              | (go_at_call 7; (with_reducible refine (A2.out _ _ (by assumption)).mono ?_); rintro e W1 ⟨rfl, hS⟩; obtain ⟨c1, c2, c3, c4⟩ := hS.cells)
              | (go_at_call 8; (with_reducible refine (NU.out _ _ _ (by assumption)).mono ?_); rintro e W1 ⟨rfl, hS⟩; obtain ⟨c1, c2, c3, c4⟩ := hS.cells))
            all_goals
              go_wp2_with fail
              go_ret
              exact ⟨rfl, hS.bel⟩
  · replace hbig := Lib.hid hbig
    have h0' : ¬ ((someS s).2.1 : Int) = 0 := by omega
    have h0b : (((someS s).2.1 : Int) == 0) = false := by simp; omega
    have h0c : (((someS s).2.1 : Int) != 0) = true := by simp; omega
    generalize someS s = R at *
    go_enter Tryd.func3, Tryd.ntmps3
    (go_wp2_with fail; repeat (any_goals (go_quiet (fail); go_wp2_with fail)))
    refine (L.out _ (hE.out.env.next (by repeat (first | assumption | exact Below.refl _ _ | apply Below.drew | apply below_drewN | apply balloc | (refine Below.setCell ?_ (by first | omega | (simp <;> omega)) _))))).mono ?_
    rintro e w1 ⟨rfl, hb⟩
    have hb1 : Below w.heap.size w w1 := bcall (by repeat (first | assumption | exact Below.refl _ _ | apply Below.drew | apply below_drewN | apply balloc | (refine Below.setCell ?_ (by first | omega | (simp <;> omega)) _))) hb
    clear hb
    (go_wp2_with fail; repeat (any_goals (go_quiet (fail); go_wp2_with fail)))
    refine (S.out _).mono ?_
    rintro e w2 ⟨⟨v1, rfl, ho1, _⟩, hb⟩
    have hb2 : Below w.heap.size w w2 := bcall hb1 hb
    clear hb
    rw [if_neg h0] at ho1
    simp only [h0, if_false]
    replace h0 := Lib.hid h0
    replace ho1 := Lib.hid ho1
    (go_wp2_with fail; repeat (any_goals (go_quiet (fail); go_wp2_with fail)))
    go_ret
    exact ⟨rfl, hb2⟩

end Go.Proofs.YtibopkodoidjoaaDoor
