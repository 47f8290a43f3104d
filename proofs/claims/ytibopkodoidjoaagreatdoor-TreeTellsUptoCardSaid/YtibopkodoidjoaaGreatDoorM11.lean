/- Lemmas of the proof, put together: As, Lives18, At18, TreeParses, Rf4, Tells, TreeTells. -/
import Derived.Test.YtibopkodoidjoaaGreatDoorM1
import Derived.Stop.Asserts
import Derived.RowKitTokens
import Derived.Test.YtibopkodoidjoaaGreatDoorM9
import Derived.Test.YtibopkodoidjoaaGreatDoorM10

/- errors.As at the target **api.At, the error an *api.At: Go's own text walked. (Lines of the kit's worked example of errors.As, turned to this program.) -/
namespace Go.Proofs.YtibopkodoidjoaaGreatDoor
open Go Go.RowKit Go.Extern.Stop Go.Stop Go.Extern

theorem asvalueOf27 (t : Addr) (w : World) : (ReflectliteValue.unpack (.iface 84 (.pointer (some t)))).run Tryz.prog w
    = .ok (.agg #[.pointer (some ⟨28, 84, none⟩), .pointer (some ⟨w.heap.size, 0, none⟩), .int .u64 150]) (w.alloc (.cells #[.pointer (some t)] 84)) := by kernel_rfl
theorem astype27 (a : Addr) (w : World) : (ReflectliteValue.methodAny (ReflectliteValue.valueError "reflectlite.Value.Type" 0) (fun t _ _ _ => ReflectliteType.toType t) #[.agg #[.pointer (some ⟨28, 84, none⟩), .pointer (some a), .int .u64 150]]).run Tryz.prog w
    = .ok (.iface 169 (.agg #[.pointer (some ⟨28, 84, none⟩)])) w := by kernel_rfl
theorem asmethodKind (d : Nat) (h : Value) (w : World) : (Go.method (d + 8) 169 (.agg #[h]) "Kind").run Tryz.prog w = .ok (169, h) w := by kernel_rfl
theorem askind27 (w : World) : ((ReflectliteType.abiMethod fun t => (fun a : Nat => Value.int IntKind.u8 (a : Int)) <$> Rtype.kind t) #[.pointer (some ⟨28, 84, none⟩)]).run Tryz.prog w = .ok (.int .u8 22) w := by kernel_rfl
theorem askind25 (w : World) : ((ReflectliteType.abiMethod fun t => (fun a : Nat => Value.int IntKind.u8 (a : Int)) <$> Rtype.kind t) #[.pointer (some ⟨28, 69, none⟩)]).run Tryz.prog w = .ok (.int .u8 22) w := by kernel_rfl

theorem rlm (z : Sem Value) (f : TypeId → Addr → Nat → Nat → Sem Value) (v : Value) :
    ReflectliteValue.method z f #[v] = (do match ← ReflectliteValue.parts v with | none => z | some (t, a, fl) => f t a fl (fl % 32)) := rfl
theorem asparts27 (a : Addr) (w : World) : (ReflectliteValue.parts (.agg #[.pointer (some ⟨28, 84, none⟩), .pointer (some a), .int .u64 150])).run Tryz.prog w = .ok (some (84, a, 150)) w := by kernel_rfl
theorem asisNil27 (a p : Addr) (W : World) (ha : W.cell? a = some (.pointer (some p))) :
    (ReflectliteValue.method (ReflectliteValue.valueError "reflectlite.Value.IsNil" 0) ReflectliteValue.isNil #[.agg #[.pointer (some ⟨28, 84, none⟩), .pointer (some a), .int .u64 150]]).run Tryz.prog W = .ok (.bool false) W := by
  rw [rlm]
  simp only [Sem.run_bind, asparts27, Result.andThen]
  simp [ReflectliteValue.isNil, loadVar, isAgg, underlying, Tryz.underlying84, ha, Result.andThen]

theorem asmethodElem (d : Nat) (h : Value) (w : World) : (Go.method (d + 8) 169 (.agg #[h]) "Elem").run Tryz.prog w = .ok (181, .agg #[h]) w := by kernel_rfl
theorem asmethodImplements (d : Nat) (h : Value) (w : World) : (Go.method (d + 8) 169 (.agg #[h]) "Implements").run Tryz.prog w = .ok (182, .agg #[h]) w := by kernel_rfl
theorem asmethodAssignableTo (d : Nat) (h : Value) (w : World) : (Go.method (d + 8) 169 (.agg #[h]) "AssignableTo").run Tryz.prog w = .ok (179, .agg #[h]) w := by kernel_rfl
theorem aselem27 (w : World) : (ReflectliteType.method ReflectliteType.elem #[.agg #[.pointer (some ⟨28, 84, none⟩)]]).run Tryz.prog w = .ok (.iface 169 (.agg #[.pointer (some ⟨28, 69, none⟩)])) w := by kernel_rfl
theorem asimplements25 (w : World) : (ReflectliteType.relation "Implements" ReflectliteType.implements_ #[.agg #[.pointer (some ⟨28, 69, none⟩)], .iface 169 (.agg #[.pointer (some ⟨28, 26, none⟩)])]).run Tryz.prog w = .ok (.bool true) w := by kernel_rfl
theorem astypeOf25 (v : Value) (w : World) : (ReflectliteType.typeOf #[.iface 69 v]).run Tryz.prog w = .ok (.iface 169 (.agg #[.pointer (some ⟨28, 69, none⟩)])) w := by kernel_rfl
theorem asassignable25 (w : World) : (ReflectliteType.relation "AssignableTo" ReflectliteType.assignableTo #[.agg #[.pointer (some ⟨28, 69, none⟩)], .iface 169 (.agg #[.pointer (some ⟨28, 69, none⟩)])]).run Tryz.prog w = .ok (.bool true) w := by kernel_rfl
theorem asvalueOf25 (e : Addr) (w : World) : (ReflectliteValue.unpack (.iface 69 (.pointer (some e)))).run Tryz.prog w
    = .ok (.agg #[.pointer (some ⟨28, 69, none⟩), .pointer (some ⟨w.heap.size, 0, none⟩), .int .u64 150]) (w.alloc (.cells #[.pointer (some e)] 69)) := by kernel_rfl

theorem aselemOf27 (w : World) : (Rtype.elem? 84).run Tryz.prog w = .ok (some 69) w := by kernel_rfl
theorem asmk25 (p : Addr) (w : World) : (ReflectliteValue.mk 69 p ReflectliteValue.flagAddr).run Tryz.prog w = .ok (.agg #[.pointer (some ⟨28, 69, none⟩), .pointer (some p), .int .u64 406]) w := by kernel_rfl
theorem aselemV27 (a p : Addr) (W : World) (ha : W.cell? a = some (.pointer (some p))) :
    (ReflectliteValue.method (ReflectliteValue.valueError "reflectlite.Value.Elem" 0) ReflectliteValue.elem #[.agg #[.pointer (some ⟨28, 84, none⟩), .pointer (some a), .int .u64 150]]).run Tryz.prog W
      = .ok (.agg #[.pointer (some ⟨28, 69, none⟩), .pointer (some p), .int .u64 406]) W := by
  rw [rlm]
  simp only [Sem.run_bind, asparts27, Result.andThen]
  simp [ReflectliteValue.elem, loadVar, isAgg, underlying, Tryz.underlying84, ha, Result.andThen, aselemOf27, asmk25]
theorem rls (v x : Value) : ReflectliteValue.set #[v, x] = (do
    let (some (dst, a, fl), some (src, b, _)) := (← ReflectliteValue.parts v, ← ReflectliteValue.parts x)
      | unsupported (.noEntry "extern/(internal/reflectlite.Value).Set.zeroValue")
    if fl / ReflectliteValue.flagAddr % 2 == 0 then unsupported (.noEntry "extern/(internal/reflectlite.Value).Set.unaddressable")
    let val ← loadVar src b
    if ← Rtype.directlyAssignable dst src then storeVar dst a val
    else if ← Rtype.implements dst src then
      if (← Rtype.kind src) == 20 then
        match val with
        | .nilIface => unsupported (.noEntry "extern/reflectlite: a nil value of one interface type handed on as a value of another")
        | _ => storeVar dst a val
      else storeVar dst a (.iface src val)
    else panicString ("reflectlite.Set: value of type " ++ (← Rtype.spelt src) ++ " is not assignable to type " ++ (← Rtype.spelt dst))
    pure (.tuple #[])) := rfl
theorem asparts25a (a : Addr) (w : World) : (ReflectliteValue.parts (.agg #[.pointer (some ⟨28, 69, none⟩), .pointer (some a), .int .u64 406])).run Tryz.prog w = .ok (some (69, a, 406)) w := by kernel_rfl
theorem asparts25 (a : Addr) (w : World) : (ReflectliteValue.parts (.agg #[.pointer (some ⟨28, 69, none⟩), .pointer (some a), .int .u64 150])).run Tryz.prog w = .ok (some (69, a, 150)) w := by kernel_rfl
theorem asdirect25 (w : World) : (Rtype.directlyAssignable 69 69).run Tryz.prog w = .ok true w := by kernel_rfl
theorem assize25 (w : World) : (sizeOf 69).run Tryz.prog w = .ok 1 w := by kernel_rfl
theorem asset25 (ta b e : Addr) (old : Value) (W : World) (hb : W.cell? b = some (.pointer (some e))) (ht : W.cell? ta = some old) (hf : W.frozen? ta = false) :
    (ReflectliteValue.set #[.agg #[.pointer (some ⟨28, 69, none⟩), .pointer (some ta), .int .u64 406], .agg #[.pointer (some ⟨28, 69, none⟩), .pointer (some b), .int .u64 150]]).run Tryz.prog W
      = .ok (.tuple #[]) (W.setCell ta (.pointer (some e))) := by
  rw [rls]
  simp only [Sem.run_bind, asparts25a, asparts25, Result.andThen]
  simp [ReflectliteValue.flagAddr, loadVar, isAgg, underlying, Tryz.underlying69, hb, Result.andThen, asdirect25, storeVar, Value.cells, storeCells, Addr.add]
  rw [run_store Tryz.prog W ta _ _ (by rfl)]
  simp [ht, hf]

set_option maxHeartbeats 4000000 in
theorem as_hit (e t : Addr) (old : Value) (w : World) (hg : w.cell? ⟨2, 0, none⟩ = some (.iface 169 (.agg #[.pointer (some ⟨28, 26, none⟩)]))) (ht0 : w.cell? t = some old) (hf0 : w.frozen? t = false) :
    Calls Tryz.prog 37 #[.iface 69 (.pointer (some e)), .iface 84 (.pointer (some t))] w fun ev w' => ev = .returned (.bool true) ∧ w' = ((((w.alloc (.cells #[.pointer (some t)] 84)).alloc (.cells #[.pointer (some ⟨28, 84, none⟩), .pointer (some ⟨w.heap.size, 0, none⟩), .int .u64 150] 132)).alloc (.cells #[.pointer (some ⟨28, 84, none⟩), .pointer (some ⟨w.heap.size, 0, none⟩), .int .u64 150] 132)).alloc (.cells #[.pointer (some e)] 69)).setCell t (.pointer (some e)) := by
  have h6 := @run_callFunc_extern Tryz.prog 64 _ (fun args => ReflectliteValue.unpack (args.getD 0 (.tuple #[]))) Tryz.func64 (by kernel_rfl) (by kernel_rfl) (by kernel_rfl) (by kernel_rfl)
  have h7 := @run_callFunc_extern Tryz.prog 65 _ (ReflectliteValue.methodAny (ReflectliteValue.valueError "reflectlite.Value.Type" 0) (fun t _ _ _ => ReflectliteType.toType t)) Tryz.func65 (by kernel_rfl) (by kernel_rfl) (by kernel_rfl) (by kernel_rfl)
  have h8 := @run_callFunc_extern Tryz.prog 66 _ (ReflectliteValue.method (ReflectliteValue.valueError "reflectlite.Value.IsNil" 0) ReflectliteValue.isNil) Tryz.func66 (by kernel_rfl) (by kernel_rfl) (by kernel_rfl) (by kernel_rfl)
  have h27 := @run_callFunc_extern Tryz.prog 169 _ (ReflectliteType.abiMethod fun t => do pure (.int .u8 (← Rtype.kind t))) Tryz.func169 (by kernel_rfl) (by kernel_rfl) (by kernel_rfl) (by kernel_rfl)
  have h37 := @run_callFunc_extern Tryz.prog 181 _ (ReflectliteType.method ReflectliteType.elem) Tryz.func181 (by kernel_rfl) (by kernel_rfl) (by kernel_rfl) (by kernel_rfl)
  have h38 := @run_callFunc_extern Tryz.prog 182 _ (ReflectliteType.relation "Implements" ReflectliteType.implements_) Tryz.func182 (by kernel_rfl) (by kernel_rfl) (by kernel_rfl) (by kernel_rfl)
  have h10 := @run_callFunc_extern Tryz.prog 85 _ ReflectliteType.typeOf Tryz.func85 (by kernel_rfl) (by kernel_rfl) (by kernel_rfl) (by kernel_rfl)
  have h35 := @run_callFunc_extern Tryz.prog 179 _ (ReflectliteType.relation "AssignableTo" ReflectliteType.assignableTo) Tryz.func179 (by kernel_rfl) (by kernel_rfl) (by kernel_rfl) (by kernel_rfl)
  have h11 := @run_callFunc_extern Tryz.prog 86 _ (ReflectliteValue.method (ReflectliteValue.valueError "reflectlite.Value.Elem" 0) ReflectliteValue.elem) Tryz.func86 (by kernel_rfl) (by kernel_rfl) (by kernel_rfl) (by kernel_rfl)
  have h12 := @run_callFunc_extern Tryz.prog 87 _ ReflectliteValue.set Tryz.func87 (by kernel_rfl) (by kernel_rfl) (by kernel_rfl) (by kernel_rfl)
  have tO := astypeOf25
  have mA := asmethodAssignableTo
  have a25 := asassignable25
  have v25 := asvalueOf25
  have f6 := asvalueOf27
  have f7 := astype27
  have mK := asmethodKind
  have mE := asmethodElem
  have mI := asmethodImplements
  have k27 := askind27
  have k25 := askind25
  have e27 := aselem27
  have i25 := asimplements25
  have n8 := asisNil27 ⟨w.heap.size, 0, none⟩ t ((w.alloc (.cells #[.pointer (some t)] 84)).alloc (.cells #[.pointer (some ⟨28, 84, none⟩), .pointer (some ⟨w.heap.size, 0, none⟩), .int .u64 150] 132)) (by simp)
  have hlt : 2 < w.heap.size := by
    rcases Nat.lt_or_ge 2 w.heap.size with h | h
    · exact h
    · simp [World.cell?, Array.getElem?_eq_none h] at hg
  have hg2 : ((w.alloc (.cells #[.pointer (some t)] 84)).alloc (.cells #[.pointer (some ⟨28, 84, none⟩), .pointer (some ⟨w.heap.size, 0, none⟩), .int .u64 150] 132)).cell? ⟨2, 0, none⟩ = some (.iface 169 (.agg #[.pointer (some ⟨28, 26, none⟩)])) := by
    rw [World.cell?_alloc_lt _ _ ⟨2, 0, none⟩ (by simp <;> omega), World.cell?_alloc_lt _ _ ⟨2, 0, none⟩ hlt]; exact hg
  have htl : t.block < w.heap.size := by
    rcases Nat.lt_or_ge t.block w.heap.size with h | h
    · exact h
    · simp [World.cell?, Array.getElem?_eq_none h] at ht0
  have el := aselemV27 ⟨w.heap.size, 0, none⟩ t (((w.alloc (.cells #[.pointer (some t)] 84)).alloc (.cells #[.pointer (some ⟨28, 84, none⟩), .pointer (some ⟨w.heap.size, 0, none⟩), .int .u64 150] 132)).alloc (.cells #[.pointer (some ⟨28, 84, none⟩), .pointer (some ⟨w.heap.size, 0, none⟩), .int .u64 150] 132)) (by rw [World.cell?_alloc_lt _ _ ⟨w.heap.size, 0, none⟩ (by simp; omega)]; simp)
  have st := asset25 t ⟨w.heap.size + 1 + 1 + 1, 0, none⟩ e old ((((w.alloc (.cells #[.pointer (some t)] 84)).alloc (.cells #[.pointer (some ⟨28, 84, none⟩), .pointer (some ⟨w.heap.size, 0, none⟩), .int .u64 150] 132)).alloc (.cells #[.pointer (some ⟨28, 84, none⟩), .pointer (some ⟨w.heap.size, 0, none⟩), .int .u64 150] 132)).alloc (.cells #[.pointer (some e)] 69))
    (by rw [World.cell?_alloc_at _ _ _ _ (by simp)]; rfl)
    (by rw [World.cell?_alloc_lt _ _ t (by simp; omega), World.cell?_alloc_lt _ _ t (by simp; omega), World.cell?_alloc_lt _ _ t (by simp; omega), World.cell?_alloc_lt _ _ t htl]; exact ht0)
    (by rw [World.frozen?_alloc_old _ _ t (by simp; omega), World.frozen?_alloc_old _ _ t (by simp; omega), World.frozen?_alloc_old _ _ t (by simp; omega), World.frozen?_alloc_old _ _ t (Nat.ne_of_lt htl)]; exact hf0)
  go_enter Tryz.func37, Tryz.ntmps37
  go_wp2
  refine wp_loop_rounds 1 ?_
  rw [rounds_succ]
  go_wp2
  go_ret
  exact ⟨rfl, rfl⟩

end Go.Proofs.YtibopkodoidjoaaGreatDoor

/- The statements of chapter 18: errors.As as a contract; lives. -/
namespace Go.Proofs.YtibopkodoidjoaaGreatDoor
open Go Go.RowKit

/-- The package variables, and that of package errors. -/
structure EnvA (A : Nat → Addr) (B : Nat) (w : World) : Prop where
  env : Env A B SVN w
  et : w.cell? ⟨2, 0, none⟩ = some (.iface 169 (.agg #[.pointer (some ⟨28, 26, none⟩)]))
  lt : 2 < B
theorem EnvA.next {A : Nat → Addr} {B : Nat} {w w' : World} (h : EnvA A B w) (hb : Below w.heap.size w w') : EnvA A B w' :=
  ⟨h.env.next hb, (hb.cell (p := ⟨_, _, none⟩) (Nat.lt_of_lt_of_le h.lt h.env.hB)).trans h.et, h.lt⟩
theorem EnvA.below {A : Nat → Addr} {B : Nat} {w w' : World} (h : EnvA A B w) (hb : Below B w w') : EnvA A B w' :=
  ⟨h.env.below hb, (hb.cell (p := ⟨_, _, none⟩) h.lt).trans h.et, h.lt⟩
theorem As_calls {A : Nat → Addr} {B : Nat} (g t : Nat) (old : Value) (w : World) (hE : EnvA A B w) (ht : w.heap[t]? = some (.cells #[old] 69 (0, 0))) :
    Calls Tryz.prog 37 #[.iface 69 (.pointer (some ⟨g, 0, none⟩)), .iface 84 (.pointer (some ⟨t, 0, none⟩))] w fun e w' => e = .returned (.bool true) ∧
      w'.heap[t]? = some (.cells #[.pointer (some ⟨g, 0, none⟩)] 69 (0, 0)) ∧ w.grownBy w' (some t) := by
  refine (as_hit ⟨g, 0, none⟩ ⟨t, 0, none⟩ old w hE.et (cellB ht 0 rfl) (freeB ht 0)).mono ?_
  rintro e w' ⟨rfl, rfl⟩
  refine ⟨rfl, ?_, ?_⟩
  · rw [Lib.heap_setCell_same (i := 0) (box_next (box_next (box_next (box_next ht ((Below.refl _ _).alloc (Nat.le_refl _) _)) ((Below.refl _ _).alloc (Nat.le_refl _) _)) ((Below.refl _ _).alloc (Nat.le_refl _) _)) ((Below.refl _ _).alloc (Nat.le_refl _) _))]
    rfl
  · exact grown_trans (grown_trans (grown_trans (grown_trans (World.grownBy_alloc _ _ _) (World.grownBy_alloc _ _ _)) (World.grownBy_alloc _ _ _)) (World.grownBy_alloc _ _ _)) (grown_set _ _ _ _)
/-- Two errors with places, and the two variables that errors.As fills. -/
structure AsS (A : Nat → Addr) (B : Nat) (w : World) (b1 b2 g1 g2 k : Nat) (p1 p2 : Int) (x1 x2 : Value) (W : World) : Prop where
  env : EnvA A B W
  bel : Below w.heap.size w W
  h1 : W.heap[b1]? = some (.cells #[x1] 69 (0, 0))
  h2 : W.heap[b2]? = some (.cells #[x2] 69 (0, 0))
  a1 : AtB p1 (.iface 237 (.pointer (some (A k)))) g1 W
  a2 : AtB p2 (.iface 237 (.pointer (some (A k)))) g2 W
  lt : w.heap.size ≤ b1 ∧ b1 < b2 ∧ g1 < b1 ∧ g2 < b1 ∧ B ≤ w.heap.size
theorem AsS.next {A : Nat → Addr} {B : Nat} {w : World} {b1 b2 g1 g2 k : Nat} {p1 p2 : Int} {x1 x2 : Value} {W W' : World} (h : AsS A B w b1 b2 g1 g2 k p1 p2 x1 x2 W) (hb : Below W.heap.size W W') : AsS A B w b1 b2 g1 g2 k p1 p2 x1 x2 W' :=
  ⟨h.env.next hb, bcall h.bel hb, box_next h.h1 hb, box_next h.h2 hb, box_next h.a1 hb, box_next h.a2 hb, h.lt⟩
theorem AsS.one {A : Nat → Addr} {B : Nat} {w : World} {b1 b2 g1 g2 k : Nat} {p1 p2 : Int} {x1 x2 y : Value} {W W' : World} (h : AsS A B w b1 b2 g1 g2 k p1 p2 x1 x2 W) (hy : W'.heap[b1]? = some (.cells #[y] 69 (0, 0))) (hg : W.grownBy W' (some b1)) : AsS A B w b1 b2 g1 g2 k p1 p2 y x2 W' := by
  obtain ⟨l1, l2, l3, l4, l5⟩ := h.lt
  have hW := h.bel.size
  have k1 := ltB h.h2
  refine ⟨h.env.below (grown_below hg (by omega) (by omega)), h.bel.trans (grown_below hg (by omega) (by omega)), hy, (hg.block b2 k1 (fun e => by have := Option.some.inj e; omega)).trans h.h2, ?_, ?_, h.lt⟩
  · exact (hg.block g1 (ltB h.a1) (fun e => by have := Option.some.inj e; omega)).trans h.a1
  · exact (hg.block g2 (ltB h.a2) (fun e => by have := Option.some.inj e; omega)).trans h.a2
theorem AsS.two {A : Nat → Addr} {B : Nat} {w : World} {b1 b2 g1 g2 k : Nat} {p1 p2 : Int} {x1 x2 y : Value} {W W' : World} (h : AsS A B w b1 b2 g1 g2 k p1 p2 x1 x2 W) (hy : W'.heap[b2]? = some (.cells #[y] 69 (0, 0))) (hg : W.grownBy W' (some b2)) : AsS A B w b1 b2 g1 g2 k p1 p2 x1 y W' := by
  obtain ⟨l1, l2, l3, l4, l5⟩ := h.lt
  have hW := h.bel.size
  have k1 := ltB h.h1
  refine ⟨h.env.below (grown_below hg (by omega) (by omega)), h.bel.trans (grown_below hg (by omega) (by omega)), (hg.block b1 k1 (fun e => by have := Option.some.inj e; omega)).trans h.h1, hy, ?_, ?_, h.lt⟩
  · exact (hg.block g1 (ltB h.a1) (fun e => by have := Option.some.inj e; omega)).trans h.a1
  · exact (hg.block g2 (ltB h.a2) (fun e => by have := Option.some.inj e; omega)).trans h.a2
theorem AsS.cells {A : Nat → Addr} {B : Nat} {w : World} {b1 b2 g1 g2 k : Nat} {p1 p2 : Int} {x1 x2 : Value} {W : World} (h : AsS A B w b1 b2 g1 g2 k p1 p2 x1 x2 W) :
    W.cell? ⟨b1, 0, none⟩ = some x1 ∧ W.cell? ⟨b2, 0, none⟩ = some x2 ∧ W.cell? ⟨g1, 1, none⟩ = some (.iface 237 (.pointer (some (A k)))) ∧ W.cell? ⟨g2, 1, none⟩ = some (.iface 237 (.pointer (some (A k)))) :=
  ⟨cellB h.h1 0 rfl, cellB h.h2 0 rfl, cellB h.a1 1 rfl, cellB h.a2 1 rfl⟩
def fix1 : ByteArray := ⟨#[91, 49, 44, 32, 34, 97, 34, 93]⟩
def fix2 : ByteArray := ⟨#[32, 123, 125, 32]⟩
theorem fix1_ok : parseS fix1 = .ok (.lst 0 [.num 1 ⟨#[49]⟩, .text 4 ⟨#[97]⟩]) 5 := by kernel_rfl
theorem fix1_form : formS fix1 = ⟨#[91, 49, 44, 34, 97, 34, 93]⟩ := by kernel_rfl
theorem fix2_ok : parseS fix2 = .ok (.obj 1 []) 2 := by kernel_rfl
set_option maxHeartbeats 1000000 in
set_option maxRecDepth 100000 in
theorem lives_calls {A : Nat → Addr} {B : Nat} (w : World) (hE : Env A B SVN w) : Calls Tryz.prog 8 #[] w fun e w' => e = .returned (.bool true) ∧ Below w.heap.size w w' := by
  have F : Hid (∀ w, Env A B SVN w → Calls Tryz.prog 15 #[.string ⟨#[91, 49, 44, 32, 34, 97, 34, 93]⟩] w fun e w' => e = .returned (.tuple #[.string ⟨#[91, 49, 44, 34, 97, 34, 93]⟩, .nilIface]) ∧ Below w.heap.size w w') := Lib.hid (fun w h => by
    refine (Format_calls fix1 w h (by decide)).mono ?_
    rintro e w' ⟨hr, hb⟩
    rw [fix1_ok, fix1_form] at hr
    exact ⟨hr, hb⟩)
  have N : Hid (∀ w, Env A B SVN w → Calls Tryz.prog 16 #[.string ⟨#[32, 123, 125, 32]⟩] w fun e w' => e = .returned (.tuple #[.string ⟨#[111, 98, 106, 101, 99, 116]⟩, .nilIface]) ∧ Below w.heap.size w w') := Lib.hid (fun w h => by
    refine (Name_calls fix2 w h (by decide)).mono ?_
    rintro e w' ⟨hr, hb⟩
    rw [fix2_ok] at hr
    exact ⟨hr, hb⟩)
  go_enter Tryz.func8, Tryz.ntmps8
  (go_wp2_with fail; repeat (any_goals (go_quiet (fail); go_wp2_with fail)))
  refine (F.out _ (hE.next (by repeat (first | assumption | exact Below.refl _ _ | apply Below.drew | apply below_drewN | apply balloc | (refine Below.setCell ?_ (by first | omega | (simp <;> omega)) _))))).mono ?_
  rintro e w1 ⟨rfl, hb⟩
  have hb1 : Below w.heap.size w w1 := bcall (by repeat (first | assumption | exact Below.refl _ _ | apply Below.drew | apply below_drewN | apply balloc | (refine Below.setCell ?_ (by first | omega | (simp <;> omega)) _))) hb
  clear hb
  (go_wp2_with fail; repeat (any_goals (go_quiet (fail); go_wp2_with fail)))
  refine (N.out _ (hE.next hb1)).mono ?_
  rintro e w2 ⟨rfl, hb⟩
  have hb2 : Below w.heap.size w w2 := bcall hb1 hb
  clear hb
  (go_wp2_with fail; repeat (any_goals (go_quiet (fail); go_wp2_with fail)))
  go_ret
  exact ⟨rfl, hb2⟩

end Go.Proofs.YtibopkodoidjoaaGreatDoor

/- The statements of chapter 18: at. -/
namespace Go.Proofs.YtibopkodoidjoaaGreatDoor
open Go Go.RowKit

theorem al_keepA {W : World} {g : Nat} {o o' : Obj} (h : W.heap[g]? = some o) : (W.alloc o').heap[g]? = some o := (((Below.refl W.heap.size W).alloc (Nat.le_refl _) o').block g (ltB h)).trans h
theorem gr_keepA {W w1 : World} {g b : Nat} {o : Obj} (hg : W.grownBy w1 (some b)) (h : W.heap[g]? = some o) (hne : g ≠ b) : w1.heap[g]? = some o := (hg.block g (ltB h) (fun e => by have := Option.some.inj e; omega)).trans h
set_option maxHeartbeats 1000000 in
set_option maxRecDepth 100000 in
theorem at_nil (p : Int) (w : World) : Calls Tryz.prog 11 #[.nilIface, .int .i64 p, .int .i64 0] w fun e w' => e = .returned (.bool true) ∧ Below w.heap.size w w' := by
  go_enter Tryz.func11, Tryz.ntmps11
  (go_wp2_with fail; repeat (any_goals (go_quiet (fail); go_wp2_with fail)))
  go_ret
  exact ⟨rfl, (by repeat (first | assumption | exact Below.refl _ _ | apply Below.drew | apply below_drewN | apply balloc | (refine Below.setCell ?_ (by first | omega | (simp <;> omega)) _)))⟩
set_option maxHeartbeats 2000000 in
set_option maxRecDepth 100000 in
theorem at_err {A : Nat → Addr} {B : Nat} (k pl g : Nat) (w : World) (hE : EnvA A B w) (hk0 : 1 ≤ k) (hk : k ≤ 19) (hat : AtB (pl : Int) (.iface 237 (.pointer (some (A k)))) g w) :
    Calls Tryz.prog 11 #[.iface 69 (.pointer (some ⟨g, 0, none⟩)), .int .i64 (pl : Int), .int .i64 (k : Int)] w fun e w' => e = .returned (.bool true) ∧ Below w.heap.size w w' := by
  have hgl := ltB hat
  have h1 : ((k : Int) == 0) = false := by simp; omega
  have h1' : ¬ (k : Int) = 0 := by omega
  replace hE := Lib.hid hE
  replace hat := Lib.hid hat
  go_enter Tryz.func11, Tryz.ntmps11
  (go_wp2_with fail; repeat (any_goals (go_quiet (fail); go_wp2_with fail)))
  refine (As_calls g w.heap.size _ _ (hE.out.next (by repeat (first | assumption | exact Below.refl _ _ | apply Below.drew | apply below_drewN | apply balloc | (refine Below.setCell ?_ (by first | omega | (simp <;> omega)) _)))) (heap_alloc_new w _)).mono ?_
  rintro e w1 ⟨rfl, ht, hg⟩
  have hat1 := gr_keepA hg (al_keepA hat.out) (by omega)
  have c0 := cellB hat1 0 rfl
  have c1 := cellB hat1 1 rfl
  have t0 := cellB ht 0 rfl
  have hb1 : Below w.heap.size w w1 := Below.grown (balloc (Below.refl _ _)) hg (by simp) (fun k e => by cases e; exact Nat.le_refl _)
  go_wp2_with fail
  refine (Num_err k w1 hk0 hk (hE.out.next hb1).env).mono ?_
  rintro e w2 ⟨rfl, hb⟩
  have hb2 : Below w.heap.size w w2 := bcall hb1 hb
  clear hb
  (go_wp2_with fail; repeat (any_goals (go_quiet (fail); go_wp2_with fail)))
  go_ret
  exact ⟨rfl, hb2⟩

end Go.Proofs.YtibopkodoidjoaaGreatDoor

/- TreeParses: the law walked: it answers true. -/
namespace Go.Proofs.YtibopkodoidjoaaGreatDoor
open Go Go.RowKit

theorem scanF_k (s : ByteArray) : ∀ f i, (scanF s f i).2.1 ≤ 2
  | 0, _ => by rw [scanF]; exact Nat.zero_le _
  | f + 1, i => by
    rw [scanF]
    split
    · split
      · exact scanF_k s f (i + 1)
      · split
        · exact scanF_k s f _
        · rename_i hi _ h
          have := (oneAt_bad s i hi h).1
          show (oneAt s i).1 ≤ 2
          omega
    · exact Nat.zero_le _
theorem someS_k (s : ByteArray) : (someS s).2.1 ≤ 2 := by
  unfold someS
  split
  · exact scanF_k s _ _
  · exact Nat.le_succ 1
theorem parse_k {s : ByteArray} {k pl : Nat} (h : parseS s = .err k pl) : 1 ≤ k ∧ k ≤ 19 := by
  unfold parseS at h
  split at h
  · have := pP_fits s (someS s).1
    rw [h] at this
    have : k = 2 ∨ k = 3 ∨ k = 6 := this
    omega
  · rename_i h0
    have := someS_k s
    cases h
    omega
set_option maxHeartbeats 4000000 in
set_option maxRecDepth 100000 in
theorem TreeParses_calls {A : Nat → Addr} {B : Nat} (s : ByteArray) (w : World) (hs : s.size ≤ 1048576) (hE : EnvA A B w) :
    Calls Tryz.prog 3 #[.string s] w fun e w' => e = .returned (.bool true) ∧ Below w.heap.size w w' := by
  have L := Lib.hid (fun w hE => lives_calls (A := A) (B := B) w hE)
  have P := Lib.hid (fun w hE => Parse_calls (A := A) (B := B) s w hE (by omega))
  have R := Lib.hid (fun w => rParse_calls s w hs)
  replace hE := Lib.hid hE
  cases hP : parseS s with
  | out =>
    rw [hP] at P
    replace hP := Lib.hid hP
    go_enter Tryz.func3, Tryz.ntmps3
    (go_wp2_with fail; repeat (any_goals (go_quiet (fail); go_wp2_with fail)))
    refine (L.out _ (hE.out.next (by repeat (first | assumption | exact Below.refl _ _ | apply Below.drew | apply below_drewN | apply balloc | (refine Below.setCell ?_ (by first | omega | (simp <;> omega)) _)))).env).mono ?_
    rintro e w1 ⟨rfl, hb⟩
    have hb1 : Below w.heap.size w w1 := bcall (by repeat (first | assumption | exact Below.refl _ _ | apply Below.drew | apply below_drewN | apply balloc | (refine Below.setCell ?_ (by first | omega | (simp <;> omega)) _))) hb
    clear hb
    (go_wp2_with fail; repeat (any_goals (go_quiet (fail); go_wp2_with fail)))
    refine (P.out _ (hE.out.next hb1).env).mono ?_
    rintro e w2 ⟨hr, hb⟩
    exact hr.elim
  | err k pl =>
    have hk := parse_k hP
    have hk1 : ((k : Int) == 0) = false := by simp; omega
    have hk2 : ¬ (k : Int) = 0 := by omega
    rw [hP] at P R
    replace hP := Lib.hid hP
    replace hk := Lib.hid hk
    go_enter Tryz.func3, Tryz.ntmps3
    (go_wp2_with fail; repeat (any_goals (go_quiet (fail); go_wp2_with fail)))
    refine (L.out _ (hE.out.next (by repeat (first | assumption | exact Below.refl _ _ | apply Below.drew | apply below_drewN | apply balloc | (refine Below.setCell ?_ (by first | omega | (simp <;> omega)) _)))).env).mono ?_
    rintro e w1 ⟨rfl, hb⟩
    have hb1 : Below w.heap.size w w1 := bcall (by repeat (first | assumption | exact Below.refl _ _ | apply Below.drew | apply below_drewN | apply balloc | (refine Below.setCell ?_ (by first | omega | (simp <;> omega)) _))) hb
    clear hb
    (go_wp2_with fail; repeat (any_goals (go_quiet (fail); go_wp2_with fail)))
    refine (P.out _ (hE.out.next hb1).env).mono ?_
    rintro e w2 ⟨⟨g1, hg1, rfl, hat1⟩, hb⟩
    have hb2 : Below w.heap.size w w2 := bcall hb1 hb
    clear hb
    replace hat1 := Lib.hid hat1
    (go_wp2_with fail; repeat (any_goals (go_quiet (fail); go_wp2_with fail)))
    refine (P.out _ (hE.out.next hb2).env).mono ?_
    rintro e w3 ⟨⟨g2, hg2, rfl, hat2⟩, hb⟩
    have hb3 : Below w.heap.size w w3 := bcall hb2 hb
    replace hat1 := Lib.hid (show AtB _ _ g1 w3 from box_next hat1.out hb)
    replace hat2 := Lib.hid hat2
    clear hb
    (go_wp2_with fail; repeat (any_goals (go_quiet (fail); go_wp2_with fail)))
    refine (R.out _).mono ?_
    rintro e w4 ⟨rfl, hb⟩
    have hb4 : Below w.heap.size w w4 := bcall hb3 hb
    replace hat1 := Lib.hid (show AtB _ _ g1 w4 from box_next hat1.out hb)
    replace hat2 := Lib.hid (show AtB _ _ g2 w4 from box_next hat2.out hb)
    clear hb
    go_wp2_with fail
    have hb5 : Below w.heap.size w (w4.alloc (.cells #[.int .i64 0, .int .i64 0, .bool false, .string ⟨#[]⟩, .slice none 0 0, .slice none 0 0, .slice none 0 0] 33 (0, 0))) := balloc hb4
    refine (at_err k pl g1 _ (hE.out.next hb5) hk.out.1 hk.out.2 (al_keepA hat1.out)).mono ?_
    rintro e w6 ⟨rfl, hb⟩
    have hb6 : Below w.heap.size w w6 := bcall hb5 hb
    replace hat2 := Lib.hid (show AtB _ _ g2 w6 from box_next (al_keepA hat2.out) hb)
    clear hb
    go_wp2_with fail
    refine (at_err k pl g2 _ (hE.out.next hb6) hk.out.1 hk.out.2 hat2.out).mono ?_
    rintro e w7 ⟨rfl, hb⟩
    have hb7 : Below w.heap.size w w7 := bcall hb6 hb
    clear hb
    go_wp2_with fail
    go_ret
    exact ⟨rfl, hb7⟩
  | ok x q =>
    rw [hP] at P R
    replace hP := Lib.hid hP
    go_enter Tryz.func3, Tryz.ntmps3
    (go_wp2_with fail; repeat (any_goals (go_quiet (fail); go_wp2_with fail)))
    refine (L.out _ (hE.out.next (by repeat (first | assumption | exact Below.refl _ _ | apply Below.drew | apply below_drewN | apply balloc | (refine Below.setCell ?_ (by first | omega | (simp <;> omega)) _)))).env).mono ?_
    rintro e w1 ⟨rfl, hb⟩
    have hb1 : Below w.heap.size w w1 := bcall (by repeat (first | assumption | exact Below.refl _ _ | apply Below.drew | apply below_drewN | apply balloc | (refine Below.setCell ?_ (by first | omega | (simp <;> omega)) _))) hb
    clear hb
    (go_wp2_with fail; repeat (any_goals (go_quiet (fail); go_wp2_with fail)))
    refine (P.out _ (hE.out.next hb1).env).mono ?_
    rintro e w2 ⟨⟨u1, rfl, hN1⟩, hb⟩
    have hb2 : Below w.heap.size w w2 := bcall hb1 hb
    have hz1 : w.heap.size ≤ w1.heap.size := hb1.size
    have hz2 : w1.heap.size ≤ w2.heap.size := hb.size
    clear hb
    obtain ⟨ut1, ua1, rfl⟩ := hN1.form
    replace hN1 := Lib.hid hN1
    (go_wp2_with fail; repeat (any_goals (go_quiet (fail); go_wp2_with fail)))
    refine (P.out _ (hE.out.next hb2).env).mono ?_
    rintro e w3 ⟨⟨u2, rfl, hN2⟩, hb⟩
    have hb3 : Below w.heap.size w w3 := bcall hb2 hb
    have hz3 : w2.heap.size ≤ w3.heap.size := hb.size
    replace hN1 := Lib.hid (hN1.out.keep fun k _ h => hb.block k h)
    clear hb
    obtain ⟨ut2, ua2, rfl⟩ := hN2.form
    replace hN2 := Lib.hid hN2
    (go_wp2_with fail; repeat (any_goals (go_quiet (fail); go_wp2_with fail)))
    refine (R.out _).mono ?_
    rintro e w4 ⟨⟨c, rfl, hN3⟩, hb⟩
    have hb4 : Below w.heap.size w w4 := bcall hb3 hb
    have hz4 : w3.heap.size ≤ w4.heap.size := hb.size
    replace hN1 := Lib.hid (hN1.out.keep fun k _ h => hb.block k (by omega))
    replace hN2 := Lib.hid (hN2.out.keep fun k _ h => hb.block k h)
    clear hb
    have I1 := Lib.hid (is_calls hN1.out hN3)
    have I2 := Lib.hid (is_calls hN2.out hN3)
    have SP := Lib.hid (spoil_calls hN1.out)
    obtain ⟨m, p, f, t, vi, vk, vp, rfl, ⟨a1, n1, c1, rfl⟩, ⟨a2, n2, c2, rfl⟩, ⟨a3, n3, c3, rfl⟩⟩ := hN3.form
    unfold IsC at I1 I2
    rw [rdC_arr] at I1 I2
    rw [rdC_arr]
    clear hN1 hN2 hN3 hP
    go_wp2_with fail
    have hb5 : Below w.heap.size w (w4.alloc (.cells #[.int .i64 (m : Int), .int .i64 (p : Int), .bool f, .string t, .slice a1 n1 c1, .slice a2 n2 c2, .slice a3 n3 c3] 33 (0, 0))) := balloc hb4
    have hbx : Below w4.heap.size w4 (w4.alloc (.cells #[.int .i64 (m : Int), .int .i64 (p : Int), .bool f, .string t, .slice a1 n1 c1, .slice a2 n2 c2, .slice a3 n3 c3] 33 (0, 0))) := balloc (Below.refl _ _)
    have hX := heap_alloc_new w4 (.cells #[.int .i64 (m : Int), .int .i64 (p : Int), .bool f, .string t, .slice a1 n1 c1, .slice a2 n2 c2, .slice a3 n3 c3] 33 (0, 0))
    refine (at_nil 0 _).mono ?_
    rintro e w6 ⟨rfl, hb⟩
    have hb6 : Below w.heap.size w w6 := bcall hb5 hb
    replace hbx := hbx.trans (hb.mono hbx.size)
    replace hX := box_next hX hb
    clear hb hb5
    go_wp2_with fail
    refine (at_nil 0 _).mono ?_
    rintro e w7 ⟨rfl, hb⟩
    have hb7 : Below w.heap.size w w7 := bcall hb6 hb
    replace hbx := hbx.trans (hb.mono hbx.size)
    replace hX := box_next hX hb
    clear hb hb6
    have yc0 := cellB hX 0 rfl
    have yc1 := cellB hX 1 rfl
    have yc2 := cellB hX 2 rfl
    have yc3 := cellB hX 3 rfl
    have yc4 := cellB hX 4 rfl
    have yc5 := cellB hX 5 rfl
    have yc6 := cellB hX 6 rfl
    have yf0 := freeB hX 0
    have yf1 := freeB hX 1
    have yf2 := freeB hX 2
    have yf3 := freeB hX 3
    have yf4 := freeB hX 4
    have yf5 := freeB hX 5
    have yf6 := freeB hX 6
    clear yf0 yf1 yf2 yf3 yf4 yf5 yf6
    have hz7 := hbx.size
    have hlx := ltB hX
    go_wp2_with fail
    refine (I1.out _ (fun k _ h => hbx.block k (by omega)) (fun k _ h => hbx.block k h) (by omega) (by omega)).mono ?_
    rintro e w8 ⟨rfl, hb⟩
    have hb8 : Below w.heap.size w w8 := bcall hb7 hb
    replace hbx := hbx.trans (hb.mono hbx.size)
    replace hX := box_next hX hb
    clear hb hb7 yc0 yc1 yc2 yc3 yc4 yc5 yc6 hz7 hlx
    have hz8 := hbx.size
    go_wp2_with fail
    refine (SP.out _ (fun k _ h => hbx.block k (by omega)) (by omega)).mono ?_
    rintro e w9 ⟨rfl, hsp⟩
    have hX9 := hsp.keep hX (Or.inr (by omega))
    have hz9 := hsp.size
    have hb9 : Below w.heap.size w w9 := ⟨hsp.os.trans hb8.os, hsp.tape.trans hb8.tape, hsp.output.trans hb8.output, by omega, fun k h => (hsp.block k (by omega) (Or.inl (by omega))).trans (hb8.block k h)⟩
    have hag : Hid (∀ k, w2.heap.size ≤ k → k < w4.heap.size → w9.heap[k]? = w4.heap[k]?) := Lib.hid (fun k h1 h2 => (hsp.block k (by omega) (Or.inr h1)).trans (hbx.block k h2))
    clear hsp hX
    have yc0 := cellB hX9 0 rfl
    have yc1 := cellB hX9 1 rfl
    have yc2 := cellB hX9 2 rfl
    have yc3 := cellB hX9 3 rfl
    have yc4 := cellB hX9 4 rfl
    have yc5 := cellB hX9 5 rfl
    have yc6 := cellB hX9 6 rfl
    have yf0 := freeB hX9 0
    have yf1 := freeB hX9 1
    have yf2 := freeB hX9 2
    have yf3 := freeB hX9 3
    have yf4 := freeB hX9 4
    have yf5 := freeB hX9 5
    have yf6 := freeB hX9 6
    clear yf0 yf1 yf2 yf3 yf4 yf5 yf6
    have hlx := ltB hX9
    go_wp2_with fail
    refine (I2.out _ (fun k h1 h => hag.out k h1 (by omega)) (fun k h1 h => hag.out k (by omega) h) (by omega) (by omega)).mono ?_
    rintro e w10 ⟨rfl, hb⟩
    have hb10 : Below w.heap.size w w10 := bcall hb9 hb
    clear hb
    go_wp2_with fail
    go_ret
    exact ⟨rfl, hb10⟩

end Go.Proofs.YtibopkodoidjoaaGreatDoor

/- The reference's tree: Format. -/
namespace Go.Proofs.YtibopkodoidjoaaGreatDoor
open Go Go.RowKit

theorem utf_no : utfE noS = 0 := by kernel_rfl
theorem parse_okT {s : ByteArray} {x : Nd} {q : Nat} (hs : s.size ≤ 3518437208882) (h : parseS s = .ok x q) : allT okT x := by
  unfold parseS at h
  by_cases h0 : (someS s).2.1 = 0
  · rw [if_pos h0] at h
    obtain ⟨h1, h2⟩ := parse_pV h
    obtain ⟨hu, hch, _⟩ := some_chain h0
    have hv0 := (utfE_brk s).1 hu
    have hbd := chain_bd _ 0 hv0 (Nat.zero_le _) hch
    have ht : ∀ T ∈ (someS s).1, T.text.size ≤ s.size := fun T hT => by
      obtain ⟨h1, h2, h3, h4, h5, h6⟩ := hbd T hT
      have h7 := one_fr (by omega) h4 h6
      have := h7.2.2.2.2.1
      omega
    refine (p_all (P := okT) (fun p _ => ⟨Nat.le_trans (textT_le ht p) hs, ?_⟩) _).1 _ _ _ _ h1
    unfold textT
    cases hT : (someS s).1[p]? with
    | none => exact utf_no
    | some T =>
      obtain ⟨k1, k2, k3, k4⟩ := some_tok h0 T (List.mem_of_getElem? hT)
      exact one_text (by omega) k3 k4
  · rw [if_neg h0] at h; cases h
/-- What the reference's Format answers. -/
def RefF (r : PR Nd) (F : ByteArray) (e : Ending) : Prop := match r with
  | .ok _ _ => e = .returned (.tuple #[.string F, .int .i64 0, .int .i64 0])
  | .err k pl => e = .returned (.tuple #[.string ⟨#[]⟩, .int .i64 (pl : Int), .int .i64 (k : Int)])
  | .out => False
set_option maxHeartbeats 1000000 in
set_option maxRecDepth 100000 in
theorem rFormat_calls (s : ByteArray) (w : World) (hs : s.size ≤ 1048576) :
    Calls Tryz.prog 14 #[.string s] w fun e w' => RefF (parseS s) (formS s) e ∧ Below w.heap.size w w' := by
  have P := Lib.hid (fun w => rParse_calls s w hs)
  have hlen := Lib.hid (fun x q h => parse_len (s := s) (x := x) (q := q) (by omega) h)
  have hsm := Lib.hid (fun x q h => parse_okT (s := s) (x := x) (q := q) (by omega) h)
  have hpk := Lib.hid (fun k pl h => parse_k (s := s) (k := k) (pl := pl) h)
  have hf : formS s = match parseS s with | .ok x _ => ⟨(fmtN x).toArray⟩ | _ => ⟨#[]⟩ := rfl
  generalize formS s = F at *
  generalize parseS s = R at *
  cases R with
  | out =>
    replace hf := Lib.hid hf
    go_enter Tryz.func14, Tryz.ntmps14
    (go_wp2_with fail; repeat (any_goals (go_quiet (fail); go_wp2_with fail)))
    refine (P.out _).mono ?_
    rintro e w1 ⟨hr, hb⟩
    exact hr.elim
  | err k pl =>
    have hk := hpk.out k pl rfl
    have hk1 : ((k : Int) == 0) = false := by simp; omega
    have hk2 : ¬ (k : Int) = 0 := by omega
    replace hf := Lib.hid hf
    go_enter Tryz.func14, Tryz.ntmps14
    (go_wp2_with fail; repeat (any_goals (go_quiet (fail); go_wp2_with fail)))
    refine (P.out _).mono ?_
    rintro e w1 ⟨rfl, hb⟩
    have hb1 : Below w.heap.size w w1 := bcall (by repeat (first | assumption | exact Below.refl _ _ | apply Below.drew | apply below_drewN | apply balloc | (refine Below.setCell ?_ (by first | omega | (simp <;> omega)) _))) hb
    clear hb
    go_wp2_with fail
    go_ret3
    exact ⟨rfl, balloc hb1⟩
  | ok x q =>
    have hlen := Lib.hid (hlen.out x q rfl)
    have hsm := Lib.hid (hsm.out x q rfl)
    replace hf := Lib.hid hf
    go_enter Tryz.func14, Tryz.ntmps14
    (go_wp2_with fail; repeat (any_goals (go_quiet (fail); go_wp2_with fail)))
    refine (P.out _).mono ?_
    rintro e w1 ⟨⟨u, rfl, hN⟩, hb⟩
    have hb1 : Below w.heap.size w w1 := bcall (by repeat (first | assumption | exact Below.refl _ _ | apply Below.drew | apply below_drewN | apply balloc | (refine Below.setCell ?_ (by first | omega | (simp <;> omega)) _))) hb
    have hz := hb1.size
    have FC := rformat_calls hN
    unfold FmtRC at FC
    obtain ⟨m, p, f, t, vi, vk, vp, rfl, ⟨a1, n1, c1, rfl⟩, ⟨a2, n2, c2, rfl⟩, ⟨a3, n3, c3, rfl⟩⟩ := hN.form
    rw [rdC_arr] at FC
    rw [rdC_arr]
    replace FC := Lib.hid FC
    replace hN := Lib.hid hN
    clear hb
    go_wp2_with fail
    have hb2 : Below w.heap.size w (w1.alloc (.cells #[.int .i64 (m : Int), .int .i64 (p : Int), .bool f, .string t, .slice a1 n1 c1, .slice a2 n2 c2, .slice a3 n3 c3] 33 (0, 0))) := balloc hb1
    refine (FC.out _ (w1.alloc (.cells #[.int .i64 (m : Int), .int .i64 (p : Int), .bool f, .string t, .slice a1 n1 c1, .slice a2 n2 c2, .slice a3 n3 c3] 33 (0, 0))).heap.size _ [] (fun k _ h => Below.heap_alloc _ _ _ h) (by simp) (Nat.le_refl _) (OwnB.nil _ _) (by have := hlen.out; simpa using this) hsm.out).mono ?_
    rintro e w2 ⟨v', rfl, ho, hF⟩
    have hcv := conv_own ho
    rw [List.nil_append, ← hf.out] at hcv
    have hb3 : Below w.heap.size w w2 := hb2.trans (hF.bel.mono hb2.size)
    clear ho hF
    go_wp2_with fail
    go_ret3
    exact ⟨rfl, hb3⟩

end Go.Proofs.YtibopkodoidjoaaGreatDoor

/- The statements of chapter 18: names. -/
namespace Go.Proofs.YtibopkodoidjoaaGreatDoor
open Go Go.RowKit

theorem eql6 (a b c d e f : Int) (w : World) : (binOp .eql 44 (.agg #[.int .i64 a, .int .i64 b, .int .i64 c, .int .i64 d, .int .i64 e, .int .i64 f]) (.agg #[.int .i64 a, .int .i64 b, .int .i64 c, .int .i64 d, .int .i64 e, .int .i64 f])).run Tryz.prog w = .ok (.bool true) w := by
  rw [run_eql_struct, show (10000 : Nat) = 9998 + 2 from rfl, eq6]
  rfl
set_option maxHeartbeats 1000000 in
set_option maxRecDepth 100000 in
theorem lnames_calls (w : World) : Calls Tryz.prog 18 #[] w fun e w' => e = .returned (.slice (some ⟨w.heap.size, 0, none⟩) 6 6) ∧ (∀ n, n < 6 → w'.cell? ⟨w.heap.size, n, none⟩ = some (.string (nameS n))) ∧ Below w.heap.size w w' := by
  go_enter Tryz.func18, Tryz.ntmps18
  (go_wp2_with fail; repeat (any_goals (go_quiet (fail); go_wp2_with fail)))
  go_ret
  refine ⟨rfl, fun n hn => ?_, (by repeat (first | assumption | exact Below.refl _ _ | apply Below.drew | apply below_drewN | apply balloc | (refine Below.setCell ?_ (by first | omega | (simp <;> omega)) _)))⟩
  have h := heap_alloc_new w (.cells #[.string (nameS 0), .string (nameS 1), .string (nameS 2), .string (nameS 3), .string (nameS 4), .string (nameS 5)] 9 (0, 0))
  rcases (show n = 0 ∨ n = 1 ∨ n = 2 ∨ n = 3 ∨ n = 4 ∨ n = 5 by omega) with rfl | rfl | rfl | rfl | rfl | rfl <;> exact cellB h _ rfl

end Go.Proofs.YtibopkodoidjoaaGreatDoor

/- TreeTells: the law walked: it answers true. -/
namespace Go.Proofs.YtibopkodoidjoaaGreatDoor
open Go Go.RowKit

theorem rname_form {w0 : World} {lo hi : Nat} {u : List Value} {x : Nd} (h : OwnR w0 lo hi u x) : u[0]? = some (.int .i64 (nameN x : Int)) := by cases h <;> rfl
theorem rdC_name {n p : Nat} {f : Bool} {t : ByteArray} {vi vk vp : Value} {x : Nd} (h : (rdC n p f t vi vk vp)[0]? = some (.int .i64 (nameN x : Int))) : n = nameN x := by
  have h1 : some (Value.int .i64 (n : Int)) = some (.int .i64 (nameN x : Int)) := h
  simp only [Option.some.injEq, Value.int.injEq, true_and] at h1
  omega
set_option maxHeartbeats 4000000 in
set_option maxRecDepth 100000 in
theorem TreeTells_calls {A : Nat → Addr} {B : Nat} (s : ByteArray) (w : World) (hs : s.size ≤ 1048576) (hE : EnvA A B w) :
    Calls Tryz.prog 4 #[.string s] w fun e w' => e = .returned (.bool true) ∧ Below w.heap.size w w' := by
  have L := Lib.hid (fun w hE => lives_calls (A := A) (B := B) w hE)
  have RF := Lib.hid (fun w => rFormat_calls s w hs)
  have TF := Lib.hid (fun w hE => Format_calls (A := A) (B := B) s w hE (by omega))
  have TN := Lib.hid (fun w hE => Name_calls (A := A) (B := B) s w hE (by omega))
  have TC := Lib.hid (fun w hE => Count_calls (A := A) (B := B) s w hE (by omega))
  have RP := Lib.hid (fun w => rParse_calls s w hs)
  have hcn := Lib.hid (fun x q h i => parse_cnt (s := s) (x := x) (q := q) (by omega) h i)
  have hpk := Lib.hid (fun k pl h => parse_k (s := s) (k := k) (pl := pl) h)
  replace hE := Lib.hid hE
  generalize formS s = F at *
  generalize parseS s = R at *
  cases R with
  | out =>
    go_enter Tryz.func4, Tryz.ntmps4
    (go_wp2_with fail; repeat (any_goals (go_quiet (fail); go_wp2_with fail)))
    refine (L.out _ (hE.out.next (by repeat (first | assumption | exact Below.refl _ _ | apply Below.drew | apply below_drewN | apply balloc | (refine Below.setCell ?_ (by first | omega | (simp <;> omega)) _)))).env).mono ?_
    rintro e w1 ⟨rfl, hb⟩
    have hb1 : Below w.heap.size w w1 := bcall (by repeat (first | assumption | exact Below.refl _ _ | apply Below.drew | apply below_drewN | apply balloc | (refine Below.setCell ?_ (by first | omega | (simp <;> omega)) _))) hb
    clear hb
    (go_wp2_with fail; repeat (any_goals (go_quiet (fail); go_wp2_with fail)))
    refine (RF.out _).mono ?_
    rintro e w2 ⟨hr, hb⟩
    exact hr.elim
  | err k pl =>
    have hk := hpk.out k pl rfl
    have hk1 : ((k : Int) == 0) = false := by simp; omega
    have hk2 : ¬ (k : Int) = 0 := by omega
    replace hk := Lib.hid hk
    have hq6 := fun w => eql6 0 0 0 0 0 0 w
    go_enter Tryz.func4, Tryz.ntmps4
    (go_wp2_with fail; repeat (any_goals (go_quiet (fail); go_wp2_with fail)))
    refine (L.out _ (hE.out.next (by repeat (first | assumption | exact Below.refl _ _ | apply Below.drew | apply below_drewN | apply balloc | (refine Below.setCell ?_ (by first | omega | (simp <;> omega)) _)))).env).mono ?_
    rintro e w1 ⟨rfl, hb⟩
    have hb1 : Below w.heap.size w w1 := bcall (by repeat (first | assumption | exact Below.refl _ _ | apply Below.drew | apply below_drewN | apply balloc | (refine Below.setCell ?_ (by first | omega | (simp <;> omega)) _))) hb
    clear hb
    (go_wp2_with fail; repeat (any_goals (go_quiet (fail); go_wp2_with fail)))
    refine (RF.out _).mono ?_
    rintro e w2 ⟨rfl, hb⟩
    have hb2 : Below w.heap.size w w2 := bcall hb1 hb
    clear hb
    (go_wp2_with fail; repeat (any_goals (go_quiet (fail); go_wp2_with fail)))
    refine (TF.out _ (hE.out.next hb2).env).mono ?_
    rintro e w3 ⟨⟨g1, hg1, rfl, hat1⟩, hb⟩
    have hb3 : Below w.heap.size w w3 := bcall hb2 hb
    clear hb
    replace hat1 := Lib.hid hat1
    (go_wp2_with fail; repeat (any_goals (go_quiet (fail); go_wp2_with fail)))
    refine (TN.out _ (hE.out.next hb3).env).mono ?_
    rintro e w4 ⟨⟨g2, hg2, rfl, hat2⟩, hb⟩
    have hb4 : Below w.heap.size w w4 := bcall hb3 hb
    replace hat1 := Lib.hid (show AtB _ _ g1 w4 from box_next hat1.out hb)
    replace hat2 := Lib.hid hat2
    clear hb
    (go_wp2_with fail; repeat (any_goals (go_quiet (fail); go_wp2_with fail)))
    refine (TC.out _ (hE.out.next hb4).env).mono ?_
    rintro e w5 ⟨⟨g3, hg3, rfl, hat3⟩, hb⟩
    have hb5 : Below w.heap.size w w5 := bcall hb4 hb
    replace hat1 := Lib.hid (show AtB _ _ g1 w5 from box_next hat1.out hb)
    replace hat2 := Lib.hid (show AtB _ _ g2 w5 from box_next hat2.out hb)
    replace hat3 := Lib.hid hat3
    clear hb
    unfold intsC
    go_wp2_with fail
    have hb6 : Below w.heap.size w (w5.alloc (.cells (intsC fun _ => 0) 44 (0, 0))) := balloc hb5
    have hZ6 : CntB w5.heap.size (fun _ => 0) (w5.alloc (.cells (intsC fun _ => 0) 44 (0, 0))) := heap_alloc_new _ _
    refine (at_err k pl g1 _ (hE.out.next hb6) hk.out.1 hk.out.2 (al_keepA hat1.out)).mono ?_
    rintro e w7 ⟨rfl, hb⟩
    have hb7 : Below w.heap.size w w7 := bcall hb6 hb
    replace hat2 := Lib.hid (show AtB _ _ g2 w7 from box_next (al_keepA hat2.out) hb)
    replace hat3 := Lib.hid (show AtB _ _ g3 w7 from box_next (al_keepA hat3.out) hb)
    have hZ7 := hZ6.grown hb
    clear hb
    go_wp2_with fail
    refine (at_err k pl g2 _ (hE.out.next hb7) hk.out.1 hk.out.2 hat2.out).mono ?_
    rintro e w8 ⟨rfl, hb⟩
    have hb8 : Below w.heap.size w w8 := bcall hb7 hb
    replace hat3 := Lib.hid (show AtB _ _ g3 w8 from box_next hat3.out hb)
    have hZ8 := hZ7.grown hb
    clear hb
    go_wp2_with fail
    refine (at_err k pl g3 _ (hE.out.next hb8) hk.out.1 hk.out.2 hat3.out).mono ?_
    rintro e w9 ⟨rfl, hb⟩
    have hb9 : Below w.heap.size w w9 := bcall hb8 hb
    have hZ9 := hZ8.grown hb
    obtain ⟨d0, d1, d2, d3, d4, d5⟩ := fin_cells hZ9
    simp only [Int.natCast_zero] at d0 d1 d2 d3 d4 d5
    clear hb hZ9 hZ8 hZ7 hZ6
    go_wp2_with fail
    go_ret
    exact ⟨rfl, hb9⟩
  | ok x q =>
    have hcx := Lib.hid (hcn.out x q rfl)
    obtain ⟨X, hX⟩ : ∃ X : Nat → Nat, X = cntN x := ⟨_, rfl⟩
    obtain ⟨N, hN⟩ : ∃ N, N = nameN x := ⟨_, rfl⟩
    have hN6 : N < 6 := by rw [hN]; exact nameN_lt x
    have hNI : (N : Int) < 6 := by omega
    have hNI0 : (0 : Int) ≤ (N : Int) := by omega
    replace TC : Hid (∀ w, Env A B SVN w → Calls Tryz.prog 17 #[.string s] w fun e w' => e = .returned (.tuple #[.agg #[.int .i64 (X 0 : Int), .int .i64 (X 1 : Int), .int .i64 (X 2 : Int), .int .i64 (X 3 : Int), .int .i64 (X 4 : Int), .int .i64 (X 5 : Int)], .nilIface]) ∧ Below w.heap.size w w') := Lib.hid (fun w h => by rw [hX]; exact TC.out w h)
    replace TN : Hid (∀ w, Env A B SVN w → Calls Tryz.prog 16 #[.string s] w fun e w' => e = .returned (.tuple #[.string (nameS N), .nilIface]) ∧ Below w.heap.size w w') := Lib.hid (fun w h => by rw [hN]; exact TN.out w h)
    obtain ⟨NS, hNS⟩ : ∃ NS, NS = nameS N := ⟨_, rfl⟩
    have LN : Hid (∀ w, Calls Tryz.prog 18 #[] w fun e w' => e = .returned (.slice (some ⟨w.heap.size, 0, none⟩) 6 6) ∧ w'.cell? ⟨w.heap.size, N, none⟩ = some (.string NS) ∧ Below w.heap.size w w') := Lib.hid (fun w => (lnames_calls w).mono fun e w' ⟨h1, h2, h3⟩ => ⟨h1, by rw [hNS]; exact h2 N hN6, h3⟩)
    rw [← hNS] at TN
    have hq6 := fun w => eql6 (X 0 : Int) (X 1 : Int) (X 2 : Int) (X 3 : Int) (X 4 : Int) (X 5 : Int) w
    replace hNS := Lib.hid hNS
    replace hX := Lib.hid hX
    replace hN := Lib.hid hN
    go_enter Tryz.func4, Tryz.ntmps4
    (go_wp2_with fail; repeat (any_goals (go_quiet (fail); go_wp2_with fail)))
    refine (L.out _ (hE.out.next (by repeat (first | assumption | exact Below.refl _ _ | apply Below.drew | apply below_drewN | apply balloc | (refine Below.setCell ?_ (by first | omega | (simp <;> omega)) _)))).env).mono ?_
    rintro e w1 ⟨rfl, hb⟩
    have hb1 : Below w.heap.size w w1 := bcall (by repeat (first | assumption | exact Below.refl _ _ | apply Below.drew | apply below_drewN | apply balloc | (refine Below.setCell ?_ (by first | omega | (simp <;> omega)) _))) hb
    clear hb
    (go_wp2_with fail; repeat (any_goals (go_quiet (fail); go_wp2_with fail)))
    refine (RF.out _).mono ?_
    rintro e w2 ⟨rfl, hb⟩
    have hb2 : Below w.heap.size w w2 := bcall hb1 hb
    clear hb
    (go_wp2_with fail; repeat (any_goals (go_quiet (fail); go_wp2_with fail)))
    refine (TF.out _ (hE.out.next hb2).env).mono ?_
    rintro e w3 ⟨rfl, hb⟩
    have hb3 : Below w.heap.size w w3 := bcall hb2 hb
    clear hb
    (go_wp2_with fail; repeat (any_goals (go_quiet (fail); go_wp2_with fail)))
    refine (TN.out _ (hE.out.next hb3).env).mono ?_
    rintro e w4 ⟨rfl, hb⟩
    have hb4 : Below w.heap.size w w4 := bcall hb3 hb
    clear hb
    (go_wp2_with fail; repeat (any_goals (go_quiet (fail); go_wp2_with fail)))
    refine (TC.out _ (hE.out.next hb4).env).mono ?_
    rintro e w5 ⟨rfl, hb⟩
    have hb5 : Below w.heap.size w w5 := bcall hb4 hb
    clear hb
    go_wp2_with fail
    have hb6 : Below w.heap.size w (w5.alloc (.cells (intsC X) 44 (0, 0))) := balloc hb5
    have hZ6 : CntB w5.heap.size X (w5.alloc (.cells (intsC X) 44 (0, 0))) := heap_alloc_new _ _
    refine (at_nil 0 _).mono ?_
    rintro e w7 ⟨rfl, hb⟩
    have hb7 : Below w.heap.size w w7 := bcall hb6 hb
    have hZ7 := hZ6.grown hb
    clear hb
    go_wp2_with fail
    refine (at_nil 0 _).mono ?_
    rintro e w8 ⟨rfl, hb⟩
    have hb8 : Below w.heap.size w w8 := bcall hb7 hb
    have hZ8 := hZ7.grown hb
    clear hb
    go_wp2_with fail
    refine (at_nil 0 _).mono ?_
    rintro e w9 ⟨rfl, hb⟩
    have hb9 : Below w.heap.size w w9 := bcall hb8 hb
    have hZ9 := hZ8.grown hb
    clear hb hZ8 hZ7 hZ6
    replace hZ9 := Lib.hid hZ9
    go_wp2_with fail
    refine (RP.out _).mono ?_
    rintro e w10 ⟨⟨c, rfl, hN3⟩, hb⟩
    have hb10 : Below w.heap.size w w10 := bcall hb9 hb
    have hZ10 := hZ9.out.grown hb
    have IC := rcount_calls hN3
    have hnm := rname_form hN3
    obtain ⟨m, p, f, t, vi, vk, vp, rfl, ⟨a1, n1, c1, rfl⟩, ⟨a2, n2, c2, rfl⟩, ⟨a3, n3, c3, rfl⟩⟩ := hN3.form
    obtain rfl : m = N := by rw [hN.out]; exact rdC_name hnm
    unfold CntRC at IC
    rw [rdC_arr, ← hX.out] at IC
    rw [rdC_arr]
    clear hb hZ9 hN3 hnm
    replace IC := Lib.hid IC
    go_upto_region 13 with fail
    have hb11 : Below w.heap.size w (w10.alloc (.cells #[.int .i64 (m : Int), .int .i64 (p : Int), .bool f, .string t, .slice a1 n1 c1, .slice a2 n2 c2, .slice a3 n3 c3] 33 (0, 0))) := balloc hb10
    have hX11 : BoxR w10.heap.size _ (w10.alloc (.cells #[.int .i64 (m : Int), .int .i64 (p : Int), .bool f, .string t, .slice a1 n1 c1, .slice a2 n2 c2, .slice a3 n3 c3] 33 (0, 0))) := heap_alloc_new w10 (.cells #[.int .i64 (m : Int), .int .i64 (p : Int), .bool f, .string t, .slice a1 n1 c1, .slice a2 n2 c2, .slice a3 n3 c3] 33 (0, 0))
    have hZ11 : CntB w5.heap.size X (w10.alloc (.cells #[.int .i64 (m : Int), .int .i64 (p : Int), .bool f, .string t, .slice a1 n1 c1, .slice a2 n2 c2, .slice a3 n3 c3] 33 (0, 0))) := al_keep hZ10
    have hag : Below w10.heap.size w10 (w10.alloc (.cells #[.int .i64 (m : Int), .int .i64 (p : Int), .bool f, .string t, .slice a1 n1 c1, .slice a2 n2 c2, .slice a3 n3 c3] 33 (0, 0))) := balloc (Below.refl _ _)
    obtain ⟨nb, hnb⟩ : ∃ nb, nb = w10.heap.size := ⟨_, rfl⟩
    rw [← hnb] at hX11 ⊢
    generalize w10.alloc (.cells #[.int .i64 (m : Int), .int .i64 (p : Int), .bool f, .string t, .slice a1 n1 c1, .slice a2 n2 c2, .slice a3 n3 c3] 33 (0, 0)) = w11 at hb11 hX11 hZ11 hag ⊢
    obtain ⟨z0, z1, z2, z3, z4, z5⟩ := fin_cells hZ11
    have oh : Hid (∀ w', Below w11.heap.size w11 w' → (w'.cell? ⟨nb, 0, none⟩ = some (.int .i64 (m : Int)) ∧ w'.cell? ⟨nb, 1, none⟩ = some (.int .i64 (p : Int)) ∧ w'.cell? ⟨nb, 2, none⟩ = some (.bool f) ∧ w'.cell? ⟨nb, 3, none⟩ = some (.string t) ∧ w'.cell? ⟨nb, 4, none⟩ = some (.slice a1 n1 c1) ∧ w'.cell? ⟨nb, 5, none⟩ = some (.slice a2 n2 c2) ∧ w'.cell? ⟨nb, 6, none⟩ = some (.slice a3 n3 c3) ∧ w'.cell? ⟨w5.heap.size, 0, none⟩ = some (.int .i64 (X 0 : Int)) ∧ w'.cell? ⟨w5.heap.size, 1, none⟩ = some (.int .i64 (X 1 : Int)) ∧ w'.cell? ⟨w5.heap.size, 2, none⟩ = some (.int .i64 (X 2 : Int)) ∧ w'.cell? ⟨w5.heap.size, 3, none⟩ = some (.int .i64 (X 3 : Int)) ∧ w'.cell? ⟨w5.heap.size, 4, none⟩ = some (.int .i64 (X 4 : Int)) ∧ w'.cell? ⟨w5.heap.size, 5, none⟩ = some (.int .i64 (X 5 : Int)) ∧ Below w11.heap.size w11 w')) := Lib.hid (fun w' hb => ⟨cell_b (cellB hX11 0 rfl) hb, cell_b (cellB hX11 1 rfl) hb, cell_b (cellB hX11 2 rfl) hb, cell_b (cellB hX11 3 rfl) hb, cell_b (cellB hX11 4 rfl) hb, cell_b (cellB hX11 5 rfl) hb, cell_b (cellB hX11 6 rfl) hb, cell_b z0 hb, cell_b z1 hb, cell_b z2 hb, cell_b z3 hb, cell_b z4 hb, cell_b z5 hb, hb⟩)
    have IC2 : Hid (∀ w', Below w11.heap.size w11 w' → Calls Tryz.prog 19 #[.agg #[.int .i64 (m : Int), .int .i64 (p : Int), .bool f, .string t, .slice a1 n1 c1, .slice a2 n2 c2, .slice a3 n3 c3]] w' fun e w'' => e = .returned (.agg #[.int .i64 (X 0 : Int), .int .i64 (X 1 : Int), .int .i64 (X 2 : Int), .int .i64 (X 3 : Int), .int .i64 (X 4 : Int), .int .i64 (X 5 : Int)]) ∧ Below w'.heap.size w' w'') := Lib.hid (fun w' hb => IC.out w' (fun k _ h => (hb.block k (by have := hag.size; omega)).trans (hag.block k h)) (by have := hag.size; have := hb.size; omega) (fun i => by rw [hX.out]; exact hcx.out i))
    replace hnb := Lib.hid hnb
    replace hX11 := Lib.hid hX11
    replace hZ11 := Lib.hid hZ11
    clear z0 z1 z2 z3 z4 z5 IC hag hZ10
    obtain ⟨q0, q1, q2, q3, q4, q5, q6, z0, z1, z2, z3, z4, z5, _⟩ := oh.out w11 (Below.refl _ _)
    go_region_with (first
      | (go_at_call 18; refine (LN.out _).mono ?_; rintro e w12 ⟨rfl, hcell, hb⟩; replace hcell : w12.cell? ⟨w11.heap.size, m, none⟩ = some (.string NS) := hcell; have hb12 : Below w11.heap.size w11 w12 := bcall (Below.drew (Below.refl _ _)) hb; clear hb; obtain ⟨q0a, q1a, q2a, q3a, q4a, q5a, q6a, z0a, z1a, z2a, z3a, z4a, z5a, _⟩ := oh.out _ hb12)
      | (go_at_call 19; refine (IC2.out _ (by assumption)).mono ?_; rintro e w13 ⟨rfl, hb⟩; have hb13 : Below w11.heap.size w11 w13 := bcall hb12 hb; clear hb; obtain ⟨q0b, q1b, q2b, q3b, q4b, q5b, q6b, z0b, z1b, z2b, z3b, z4b, z5b, _⟩ := oh.out _ hb13))
    all_goals
      go_wp2_with fail
      go_ret
      exact ⟨rfl, bcall hb11 (by assumption)⟩

end Go.Proofs.YtibopkodoidjoaaGreatDoor
