/- Lemmas of the proof, put together: RegL, TreeMap, Tree6, Tree7, Tree8, Tree9, Lay, TreePlain. -/
import Derived.Test.YtibopkodoidjoaaGreatDoorM1
import Derived.Test.YtibopkodoidjoaaGreatDoorM5
import Derived.Maps.OwnSet
import Derived.Deep.AppendLies
import Derived.Test.YtibopkodoidjoaaGreatDoorM4
import Derived.Defers
import Derived.Recover

/- A region that draws its order: a condition on the world that is asked till one operation has come up. -/
namespace Go.Proofs.YtibopkodoidjoaaGreatDoor
open Go Go.RowKit

section
variable {P : Program} {ops : Array Oper} {Q : Exit → Act → World → Prop} {md : Region.Mode} {L : Nat} {T : Bool → World → Prop}

/-- Whatever order is picked; T false holds till number L has come up, T true from there on. -/
def wpAnyL (P : Program) (md : Region.Mode) (ops : Array Oper) (Q : Exit → Act → World → Prop) (L : Nat) (T : Bool → World → Prop) : Nat → Array Bool → Act → World → Prop
  | 0, listed, a, w => Region.ready md ops listed = [] ∧ Q .normal a w
  | fuel + 1, listed, a, w =>
    (Region.ready md ops listed = [] → Q .normal a w) ∧
    ∀ i ∈ Region.ready md ops listed, wpOp P ops Q i (fun a' w' => T ((listed.setIfInBounds i true).getD L true) w' ∧ wpAnyL P md ops Q L T fuel (listed.setIfInBounds i true) a' w') a w
theorem wpAnyL_any : ∀ (fuel : Nat) (listed : Array Bool) (a : Act) (w : World), wpAnyL P md ops Q L T fuel listed a w → wpAny P md ops Q fuel listed a w
  | 0, _, _, _, h => h
  | fuel + 1, _, _, _, h => ⟨h.1, fun i hi => wpOp_mono (fun a' w' h' => wpAnyL_any fuel _ a' w' h'.2) (h.2 i hi)⟩
/-- An operation taken first; c: number L waits for it. -/
theorem wpAnyL_first {i : Nat} {oi : Oper} {v : Value} {U : World → Prop} (c : Bool) (hi : ops[i]? = some oi) (hsel : ∀ (j : Nat) (o : Oper) cs b, ops[j]? = some o → o.op ≠ .select cs b)
    (hQ : ∀ c a w, Q (.panic c) (a.put oi.dst v) w → Q (.panic c) a w) (hiL : i ≠ L)
    (hc : c = true → ∃ oL, ops[L]? = some oL ∧ ∃ e ∈ oL.after, Region.binds md e = true ∧ e.on = i) (hU0 : ∀ w, T false w → U w) (hU1 : c = false → ∀ w, T true w → U w) :
    ∀ (fuel : Nat) (listed : Array Bool) (a : Act) (w : World),
      (∀ j oj, ops[j]? = some oj → j ≠ i → listed.getD j true = false → (∀ e ∈ oj.after, Region.binds md e = true → e.on ≠ i) → oi.apart ops oj = true) →
      i ∈ Region.ready md ops listed → YieldsIf P ops U oi v a → (c = true → listed.getD L true = false) → T (listed.getD L true) w →
      wpAnyL P md ops Q L T fuel (listed.setIfInBounds i true) (a.put oi.dst v) w → wpAnyL P md ops Q L T (fuel + 1) listed a w := by
  have hUb : ∀ b w, (c = true → b = false) → T b w → U w := by
    intro b w h1 h2
    cases b with
    | false => exact hU0 w h2
    | true =>
      cases c with
      | false => exact hU1 rfl w h2
      | true => exact absurd (h1 rfl) (by simp)
  intro fuel
  induction fuel with
  | zero =>
    intro listed a w _ hr hy hl hS H
    refine ⟨fun h => (by rw [h] at hr; cases hr), fun j hj => ?_⟩
    by_cases hji : j = i
    · subst hji
      exact hy.wpOp hi (hUb _ _ hl hS) ⟨by rw [getD_set_ne true hiL]; exact hS, H⟩
    · have := ready_mono hj hji
      rw [H.1] at this
      cases this
  | succ fuel ih =>
    intro listed a w hfree hr hy hl hS H
    refine ⟨fun h => (by rw [h] at hr; cases hr), fun j hj => ?_⟩
    by_cases hji : j = i
    · subst hji
      exact hy.wpOp hi (hUb _ _ hl hS) ⟨by rw [getD_set_ne true hiL]; exact hS, H⟩
    · have h1 := H.2 j (ready_mono hj hji)
      obtain ⟨hjun, oj, hoj, hall⟩ := mem_ready.1 hj
      have hno : ∀ e, Region.binds md e = true → e ∈ oj.after → e.on ≠ i := fun e hb he heq => by
        have h1 := hall e he hb
        have h0 := (mem_ready.1 hr).1
        rw [heq] at h1
        rcases Nat.lt_or_ge i listed.size with h' | h'
        · simp [h'] at h0 h1; rw [h0] at h1; cases h1
        · simp [Array.getElem?_eq_none h'] at h1
      have h2 := wpOp_putIf hoj (hfree j oj hoj hji hjun fun e he hb => hno e hb he) (fun cs b => hsel i oi cs b hi) (fun cs b => hsel j oj cs b hoj) hQ hy h1
      have hfree' : ∀ k ok, ops[k]? = some ok → k ≠ i → (listed.setIfInBounds j true).getD k true = false →
          (∀ e ∈ ok.after, Region.binds md e = true → e.on ≠ i) → oi.apart ops ok = true := fun k ok hk hki hun hno => by
        refine hfree k ok hk hki ?_ hno
        by_cases hjk : j = k
        · subst hjk; exact hjun
        · rw [getD_set_ne true hjk] at hun; exact hun
      have hl' : c = true → (listed.setIfInBounds j true).getD L true = false := fun h => by
        by_cases hjL : j = L
        · exfalso
          obtain ⟨oL, h3, e, he, hb, h4⟩ := hc h
          rw [hjL, h3] at hoj
          cases hoj
          exact hno e hb he h4
        · rw [getD_set_ne true hjL]; exact hl h
      have hsw : ∀ x, ((listed.setIfInBounds i true).setIfInBounds j true).getD L x = (listed.setIfInBounds j true).getD L x := fun x => by
        rw [Array.setIfInBounds_comm _ _ (Ne.symm hji), getD_set_ne x hiL]
      refine wpOp_mono (fun a' w' h3 => ?_) h2
      have h4 : T ((listed.setIfInBounds j true).getD L true) w' := by rw [← hsw]; exact h3.2.1
      refine ⟨h4, ih (listed.setIfInBounds j true) a' w' hfree' (ready_mono hr (Ne.symm hji)) h3.1 hl' h4 ?_⟩
      rw [Array.setIfInBounds_comm _ _ hji]
      exact h3.2.2
/-- An operation that yields in whatever world. -/
theorem wpAnyL_take0 {i : Nat} {oi : Oper} {v : Value} {fuel : Nat} {listed : Array Bool} {a : Act} {w : World} (hi : ops[i]? = some oi) (hiL : i ≠ L)
    (hs : Region.noSelect ops = true) (hf : Region.free md ops listed i = true) (hr : (Region.ready md ops listed).contains i = true)
    (hQ : ∀ c a w, Q (.panic c) (a.put oi.dst v) w → Q (.panic c) a w) (hy : Yields P ops oi v a) (hS : T (listed.getD L true) w)
    (h : wpAnyL P md ops Q L T fuel (listed.setIfInBounds i true) (a.put oi.dst v) w) : wpAnyL P md ops Q L T (fuel + 1) listed a w :=
  wpAnyL_first (U := fun _ => True) false hi (Region.noSelect_spec hs) hQ hiL (fun h => by cases h) (fun _ _ => trivial) (fun _ _ _ => trivial) fuel listed a w (Region.free_spec hi hf) (by simpa using hr) hy.yieldsIf (fun h => by cases h) hS h
/-- A load for which number L waits. -/
theorem wpAnyL_take1 {i : Nat} {oi oL : Oper} {v : Value} {fuel : Nat} {listed : Array Bool} {a : Act} {w : World} (hi : ops[i]? = some oi) (hiL : i ≠ L) (hoL : ops[L]? = some oL) (hwt : (oL.after.any fun e => Region.binds md e && e.on == i) = true)
    (hs : Region.noSelect ops = true) (hf : Region.free md ops listed i = true) (hr : (Region.ready md ops listed).contains i = true)
    (hQ : ∀ c a w, Q (.panic c) (a.put oi.dst v) w → Q (.panic c) a w) (hl : listed.getD L true = false) (hy : YieldsIf P ops (T false) oi v a) (hS : T false w)
    (h : wpAnyL P md ops Q L T fuel (listed.setIfInBounds i true) (a.put oi.dst v) w) : wpAnyL P md ops Q L T (fuel + 1) listed a w :=
  wpAnyL_first (U := T false) true hi (Region.noSelect_spec hs) hQ hiL (fun _ => ⟨oL, hoL, by
    obtain ⟨k, hk, h1⟩ := Array.any_eq_true.1 hwt
    simp only [Bool.and_eq_true, beq_iff_eq] at h1
    exact ⟨_, Array.getElem_mem hk, h1.1, h1.2⟩⟩) (fun _ h => h) (fun h => by cases h) fuel listed a w (Region.free_spec hi hf) (by simpa using hr) hy (fun _ => hl) (by rw [hl]; exact hS) h
/-- A load whose cells stay. -/
theorem wpAnyL_take2 {i : Nat} {oi : Oper} {v : Value} {fuel : Nat} {listed : Array Bool} {a : Act} {w : World} (hi : ops[i]? = some oi) (hiL : i ≠ L)
    (hs : Region.noSelect ops = true) (hf : Region.free md ops listed i = true) (hr : (Region.ready md ops listed).contains i = true)
    (hQ : ∀ c a w, Q (.panic c) (a.put oi.dst v) w → Q (.panic c) a w) (hT : ∀ w, T false w → T true w) (hy : YieldsIf P ops (T true) oi v a) (hS : T (listed.getD L true) w)
    (h : wpAnyL P md ops Q L T fuel (listed.setIfInBounds i true) (a.put oi.dst v) w) : wpAnyL P md ops Q L T (fuel + 1) listed a w :=
  wpAnyL_first (U := T true) false hi (Region.noSelect_spec hs) hQ hiL (fun h => by cases h) hT (fun _ _ h => h) fuel listed a w (Region.free_spec hi hf) (by simpa using hr) hy (fun h => by cases h) hS h
def AllReadyL (P : Program) (md : Region.Mode) (ops : Array Oper) (Q : Exit → Act → World → Prop) (L : Nat) (T : Bool → World → Prop) (fuel : Nat) (listed : Array Bool) (a : Act) (w : World) (rs : List Nat) : Prop :=
  ∀ i ∈ rs, wpOp P ops Q i (fun a' w' => T ((listed.setIfInBounds i true).getD L true) w' ∧ wpAnyL P md ops Q L T fuel (listed.setIfInBounds i true) a' w') a w
theorem AllReadyL.nil {fuel : Nat} {listed : Array Bool} {a : Act} {w : World} : AllReadyL P md ops Q L T fuel listed a w [] := fun _ h => by cases h
theorem AllReadyL.cons {fuel : Nat} {listed : Array Bool} {a : Act} {w : World} {i : Nat} {o : Oper} {rs : List Nat} (ho : ops[i]? = some o)
    (h : ∀ K' : Act → World → Prop, Hid (∀ a w, T ((listed.setIfInBounds i true).getD L true) w → wpAnyL P md ops Q L T fuel (listed.setIfInBounds i true) a w → K' a w) → if Region.wanted o (yielded ops a.tmps) = true then Oper.wp P o a w K' Q else K' (a.put o.dst undef) w)
    (hs : AllReadyL P md ops Q L T fuel listed a w rs) : AllReadyL P md ops Q L T fuel listed a w (i :: rs) := fun j hj => by
  rcases List.mem_cons.1 hj with rfl | hj
  · exact wpOp_step ho (fun K' hK => h K' (Lib.hid fun a w hS hW => hK a w ⟨hS, hW⟩))
  · exact hs j hj
theorem wpAnyL_ready {rs : List Nat} {fuel : Nat} {listed : Array Bool} {a : Act} {w : World} (hr : Region.ready md ops listed = rs) (hne : rs ≠ [])
    (h : AllReadyL P md ops Q L T fuel listed a w rs) : wpAnyL P md ops Q L T (fuel + 1) listed a w :=
  ⟨fun h0 => absurd (hr ▸ h0) hne, hr ▸ h⟩
theorem wpAnyL_done {listed : Array Bool} {a : Act} {w : World} (hr : Region.ready md ops listed = []) (h : Q .normal a w) :
    ∀ fuel, wpAnyL P md ops Q L T fuel listed a w
  | 0 => ⟨hr, h⟩
  | _ + 1 => ⟨fun _ => h, by rw [hr]; simp⟩
theorem wp_region_L {id : Nat} {a : Act} {w : World} (L : Nat) (T : Bool → World → Prop) (hm : P.follows .mixedOrders = true)
    (h : wpAnyL P .any ops Q L T ops.size (Array.replicate ops.size false) a w.drew) : (Code.region id ops true).wp P Q a w :=
  wp_region_any hm (wpAnyL_any _ _ _ _ h)
end

end Go.Proofs.YtibopkodoidjoaaGreatDoor

/- Package tree: the set of keys, map[string]bool. -/
namespace Go.Proofs.YtibopkodoidjoaaGreatDoor
open Go Go.RowKit

theorem plainElem_bool_inv {H : Type} {P : Program} {e : TypeId} (he : P.underlying e = some .bool) {v : Value} {z : DataW H × List MemPlace} (h : plainElem P e v = some z) : ∃ x, v = .bool x ∧ z = (.lit (.bool x), []) := by
  unfold plainElem at h
  rw [he] at h
  cases v <;> simp at h
  exact ⟨_, rfl, h.symm⟩
/-- 'm[k]' at a map[string]bool that the call made. -/
theorem lookup_bool {H : Type} {P : Program} (w : World) {ops : Array Oper} {rest : List Oper} {o : Oper} {a : Act} {Q : Exit → Act → World → Prop}
    (hg : o.guard = none) (m x : Operand) (t : TypeId) (hop : o.op = Op.lookup t m x false)
    (k e : TypeId) (K : Go.Maps.Keyed P k) (ht : P.underlying t = some (.map k e)) (he : P.underlying e = some .bool) (hz : (zeroValue e).run P w = .ok (.bool false) w) (b n : Nat) (D : DataW H)
    (hm : a.eval m = .map (some b)) (hown : w.ownsMap P k (plainElem P e) b n D) (key : Value) (kl : Lit) (hx : a.eval x = key) (hkey : keyOf P k key = some kl) (c : Bool) (hat : D.atKey kl (.lit (.bool false)) = .lit (.bool c))
    (hK : wpList P ops Q rest (a.put o.dst (.bool c)) w) :
    wpList P ops Q (o :: rest) a w := by
  refine wpList_plain hg fun K' hK' => ?_
  obtain ⟨v, ps, hrun, hv⟩ := hown.lookup K ht hz (plainElem_bool he false) hkey
  obtain ⟨y, rfl, hy⟩ := plainElem_bool_inv he hv
  simp only [Prod.mk.injEq] at hy
  have : y = c := by have h := hat.symm.trans hy.1; cases h; rfl
  subst this
  unfold Oper.wp
  simp [execOp, hop, hm, hx, hrun, Result.andThen]
  exact hK' _ _ hK
def keyL (t : ByteArray) : Lit := .string t.data.toList
/-- The map holds just these keys. -/
structure SeenD (D : DataW Unit) (seen : List ByteArray) : Prop where
  isMap : Go.Maps.IsMap D
  at_ : ∀ t, D.atKey (keyL t) (.lit (.bool false)) = .lit (.bool (knows seen t))
theorem SeenD.nil : SeenD (.map []) [] := ⟨Go.Maps.isMap_empty, fun _ => rfl⟩
theorem keyL_inj {a b : ByteArray} (h : keyL a = keyL b) : a = b := by
  unfold keyL at h
  injection h with h
  rcases a with ⟨⟨a⟩⟩; rcases b with ⟨⟨b⟩⟩
  simp at h
  rw [h]
theorem knows_app (seen : List ByteArray) (t u : ByteArray) : knows (seen ++ [t]) u = (knows seen u || decide (t = u)) := by
  unfold knows
  rw [List.any_append]
  simp
theorem SeenD.put {D : DataW Unit} {seen : List ByteArray} (h : SeenD D seen) (t : ByteArray) : SeenD (D.put (keyL t) (.lit (.bool true))) (seen ++ [t]) := by
  refine ⟨?_, fun u => ?_⟩
  · exact h.isMap.put _ _
  · rw [knows_app]
    by_cases e : t = u
    · subst e
      rw [Go.Maps.atKey_put_same h.isMap (show WideAt.IsKeyLit (keyL t) from trivial)]
      simp
    · rw [Go.Maps.atKey_put_other (fun h => e (keyL_inj h).symm), h.at_ u]
      simp [e]

end Go.Proofs.YtibopkodoidjoaaGreatDoor

/- Package tree: the parser reads an object. -/
namespace Go.Proofs.YtibopkodoidjoaaGreatDoor
open Go Go.RowKit

section
variable {ops : Array Oper} {o : Oper} {a : Act} {Q : Exit → Act → World → Prop} {w : World} {K : Act → World → Prop} {E : Prop}
/-- append(list, c) of a member, in a region that draws. -/
theorem step_app_kid (hgd : o.guard = none) (sl x : Operand) (t e : TypeId) (size bytes : Nat) (cell : Kid → List Value) (z : Value) (hi : (Tryz.prog.info? e).map (fun i => (i.zero, i.size, i.bytes)) = some (some z, size, bytes)) (hz : z.cells.size = size) (hsz : 0 < size) (hby : bytes ≤ 40) (hcl : ∀ c, (cell c).length = size)
    (ht : Tryz.prog.underlying t = some (.slice e)) (ho : o.op = .call { callee := .builtin .append, args := #[sl, x], argTypes := #[t, t] }) (n0 n1 : Nat) (v : Value) (cs : List Kid) (hs : a.eval sl = v) (hK : Kids e size cell n0 w v cs)
    (g cp : Nat) (c : Kid) (cur : Array Value) (t' : TypeId) (hx : a.eval x = .slice (some ⟨g, 0, none⟩) 1 cp) (hg : w.heap[g]? = some (.cells cur t' (0, 0))) (hcur : cur = (cell c).toArray)
    (hlen : cs.length + 1 ≤ 3518437208883) (hn : n0 ≤ n1) (hn1 : n1 ≤ w.heap.size) (hle : ∀ c ∈ cs, c.h ≤ n1) (hlv : ∀ k, v.ownBlock = some k → k < n1) (hl : c.l = n1) (hh : c.h = w.heap.size) (hN : OwnN w c.l c.h c.u c.x) (h1 : ∀ u ∈ cell c, u.oneCell' = true)
    (h : ∀ v' w', Kids e size cell n0 w' v' (cs ++ [c]) → w.grownBy w' v.ownBlock → K (a.put o.dst v') w') : if Region.wanted o (yielded ops a.tmps) = true then Oper.wp Tryz.prog o a w K Q else E := by
  obtain ⟨i0, hi, hi2⟩ := Option.map_eq_some_iff.1 hi
  simp only [Prod.mk.injEq] at hi2
  refine step_append_lies w hgd sl x t ho n0 e i0 z size bytes ht hi hi2.1 hi2.2.1 hi2.2.2 hz hsz v cs.length (cs.flatMap cell) hs hK.own ⟨g, 0, none⟩ 1 cp (cell c) hx (by rw [hcl]; omega) ?_ h1 (by decide) (by unfold maxLen; omega) ?_ (Nat.le_trans hn hn1) w.heap.size rfl ?_
  · intro j u hj
    have : (⟨g, 0, none⟩ : Addr).add j = ⟨g, j, none⟩ := by simp only [Addr.add, Nat.zero_add]; split <;> simp_all
    rw [this]
    refine cellB hg j ?_
    rw [hcur, List.getElem?_toArray]
    exact hj
  · have := Nat.mul_le_mul hlen hby
    omega
  · intro g2 cap w' ho2 hg2 hv _
    refine h _ w' (hK.app hn hle hlv hl hh hn1 hN ho2 hg2 ?_) hg2
    rcases hv with hv | hv
    · exact Or.inl hv.symm
    · exact Or.inr ⟨g2, rfl, by omega⟩
end
theorem Kids.low {e : TypeId} {size : Nat} {cell : Kid → List Value} {n0 n1 : Nat} {w : World} {v : Value} {cs : List Kid} (h : Kids e size cell n0 w v cs) (hn : n1 ≤ n0) : Kids e size cell n1 w v cs :=
  ⟨ownsRow_base h.own hn, fun c hm => (h.fit c hm).wide hn (Nat.le_refl _), h.pair, h.kid⟩
theorem textT_eq {ts : List Tk} {p : Nat} {T : Tk} (h : ts[p]? = some T) : textT ts p = T.text := by unfold textT; rw [h]
theorem placeT_eq {s : ByteArray} {ts : List Tk} {p : Nat} {T : Tk} (h : ts[p]? = some T) : placeT s ts p = T.fr := by unfold placeT; rw [h]
theorem wrap_deep {deep : Nat} (h : deep < 64) : IntKind.i64.wrap ((deep : Int) + 1) = (deep : Int) + 1 := by
  simp [IntKind.wrap, IntKind.bits]
  omega
/-- A token lies in block g. -/
def TokHeld (g : Nat) (T : Tk) (w : World) : Prop := w.heap[g]? = some (.cells #[.int .i64 (T.kind : Int), .int .i64 (T.fr : Int), .int .i64 (T.to : Int), .string T.text] 59 (0, 0))
theorem TokHeld.cells {g : Nat} {T : Tk} {w : World} (h : TokHeld g T w) : w.cell? ⟨g, 1, none⟩ = some (.int .i64 (T.fr : Int)) ∧ w.cell? ⟨g, 3, none⟩ = some (.string T.text) ∧ TokHeld g T w := ⟨cellB h 1 rfl, cellB h 3 rfl, h⟩
theorem TokHeld.drew {g : Nat} {T : Tk} {w : World} (h : TokHeld g T w) : TokHeld g T w.drew := h
theorem TokHeld.alloc {g : Nat} {T : Tk} {w : World} (h : TokHeld g T w) (o : Obj) : TokHeld g T (w.alloc o) := box_next h ((Below.refl _ _).alloc (Nat.le_refl _) _)
theorem TokHeld.grown {g b : Nat} {T : Tk} {w w' : World} (h : TokHeld g T w) (hg : w.grownBy w' (some b)) (hne : g ≠ b) : TokHeld g T w' := (hg.block g (ltB h) (fun e => hne (Option.some.inj e))).trans h
theorem TokHeld.row {g : Nat} {o : Option Nat} {T : Tk} {w w' : World} (h : TokHeld g T w) (hg : w.grownBy w' o) (hne : o ≠ some g) : TokHeld g T w' := (hg.block g (ltB h) (fun e => hne e.symm)).trans h
theorem Kids.drew {e : TypeId} {size : Nat} {cell : Kid → List Value} {n0 : Nat} {w : World} {v : Value} {cs : List Kid} (h : Kids e size cell n0 w v cs) : Kids e size cell n0 w.drew v cs := h.below (below_drewN (Below.refl _ _) 1)
set_option maxHeartbeats 4000000 in
set_option maxRecDepth 100000 in
theorem members_calls {A : Nat → Addr} {B base : Nat} {s : ByteArray} {v : Value} {ts : List Tk} (f : Nat) (hV : ∀ f', f' < f → VC A B base s v ts f') (deep p b : Nat) (w : World) (hW : PsW A B base s v ts p b w) (h6 : kindT ts p = 6) (hd : deep < 64) (hl : ts.length ≤ 3518437208882) (htx : ∀ T ∈ ts, T.text.size ≤ maxLen)
    (r : PR (List (ByteArray × Nat × Nd))) (hr : r = if kindT ts (p + 1) = 7 then .ok [] (p + 2) else pM s ts f deep [] (p + 1)) (hout : r ≠ .out) :
    Calls Tryz.prog 60 #[.pointer (some ⟨b, 0, none⟩), .int .i64 (deep : Int)] w (PostM A s v b w r) := by
  have hbl := hW.lt
  replace hW := Lib.hid hW
  replace hV := Lib.hid hV
  replace hr := Lib.hid hr
  replace hout := Lib.hid hout
  replace hl := Lib.hid hl
  replace htx := Lib.hid htx
  have hmm := @run_makeMap Tryz.prog
  go_enter Tryz.func60, Tryz.ntmps60
  (go_wp2_with fail; repeat (any_goals (go_quiet (fail); go_wp2_with fail)))
  refine (PsW.take_ok (hW.out.next (by repeat (first | assumption | exact Below.refl _ _ | apply Below.drew | apply below_drewN | apply balloc | (refine Below.setCell ?_ (by first | omega | (simp <;> omega)) _)))) h6 (by decide)).mono ?_
  rintro e w1 ⟨⟨T, hT, rfl⟩, hW1, hg1⟩
  replace hT := Lib.hid hT
  unfold tkV
  have hm0 : w1.ownsMap Tryz.prog 9 (plainElem (H := Unit) Tryz.prog 4) w.heap.size 0 (.map []) := (World.ownsMap_made w _ _ _).kept hg1 (fun e => by cases e; omega)
  by_cases h7 : kindT ts (p + 1) = 7
  · have hr1 := hr.out
    rw [if_pos h7] at hr1
    replace hr1 := Lib.hid hr1
    have N := Lib.hid (fun w (h : PsW A B base s v ts (p + 1) b w) => h.next_calls h7)
    have hpb : ((p + 1 : Nat) : Int) ≤ 3518437208882 := by have := hW1.hp; have := hl.out; omega
    have hg1 := grown_trans (grown_of_below (r := some b) (show Below w.heap.size w _ from (by repeat (first | assumption | exact Below.refl _ _ | apply Below.drew | apply below_drewN | apply balloc | (refine Below.setCell ?_ (by first | omega | (simp <;> omega)) _))))) hg1
    generalize hp1 : p + 1 = p1 at *
    replace hp1 := Lib.hid hp1
    replace hW1 := Lib.hid hW1
    replace hg1 := Lib.hid hg1
    (go_wp2_with fail; repeat (any_goals (go_quiet (fail); go_wp2_with fail)))
    refine (N.out _ hW1.out).mono ?_
    rintro e w2 ⟨rfl, hb⟩
    have hW2 := hW1.out.next hb
    have hg2 := grown_belowR hg1.out hb
    clear hb
    have x2 := hW2.ps.c2
    have f2 := freeB hW2.ps 2
    replace hW2 := Lib.hid hW2
    replace hg2 := Lib.hid hg2
    (go_wp2_with fail; repeat (any_goals (go_quiet (fail); go_wp2_with fail)))
    go_ret
    refine ⟨grown_trans hg2.out (grown_set _ _ _ _), ?_⟩
    rw [hr1.out]
    refine ⟨_, [], rfl, Kids.nil _ _ _ _ _, rfl, ?_⟩
    have h1 := hW2.out.ps.inc
    rw [show p1 + 1 = p + 2 by have := hp1.out; omega] at h1
    exact h1
  · have hr1 := hr.out
    rw [if_neg h7] at hr1
    replace hr1 := Lib.hid hr1
    have N := Lib.hid (fun w (h : PsW A B base s v ts (p + 1) b w) => h.next_calls (k := kindT ts (p + 1)) rfl)
    have hne : ((kindT ts (p + 1) : Int) == 7) = false := by simp; omega
    have hne' : ¬ (kindT ts (p + 1) : Int) = 7 := by omega
    have hp1le := hW1.hp
    have hg1 := grown_trans (grown_of_below (r := some b) (show Below w.heap.size w _ from (by repeat (first | assumption | exact Below.refl _ _ | apply Below.drew | apply below_drewN | apply balloc | (refine Below.setCell ?_ (by first | omega | (simp <;> omega)) _))))) hg1
    generalize hp1 : p + 1 = p1 at *
    generalize hK : kindT ts p1 = K1 at *
    replace hp1 := Lib.hid hp1
    replace hK := Lib.hid hK
    replace hW1 := Lib.hid hW1
    replace hg1 := Lib.hid hg1
    (go_wp2_with fail; repeat (any_goals (go_quiet (fail); go_wp2_with fail)))
    refine (N.out _ hW1.out).mono ?_
    rintro e w2 ⟨rfl, hb⟩
    have hW2 := hW1.out.next hb
    have hg2 := grown_belowR hg1.out hb
    have hm2 := hm0.kept (grown_of_below (r := none) hb) (by simp)
    clear hb hm0 N
    replace hW2 := Lib.hid hW2
    replace hg2 := Lib.hid hg2
    replace hm2 := Lib.hid hm2
    (go_wp2_with fail; repeat (any_goals (go_quiet (fail); go_wp2_with fail)))
    go_loopg [5] f (fun kq lv wr => ∃ (q : Nat) (cs : List Kid) (D : DataW Unit) (n : Nat), PsB s v q b wr ∧ Hid (w.grownBy wr (some b)) ∧ Hid (Kids 103 3 memC (w.heap.size + 1) wr lv cs) ∧ Hid (wr.ownsMap Tryz.prog 9 (plainElem (H := Unit) Tryz.prog 4) w.heap.size n D ∧ SeenD D (cs.map Kid.key) ∧ n ≤ cs.length) ∧
      Hid (cs.length ≤ q ∧ q ≤ ts.length ∧ kq ≤ f ∧ comb (cs.map Kid.mem) (pM s ts kq deep (cs.map Kid.key) q) = r ∧ w.heap.size + 1 ≤ wr.heap.size))
    case atStart => exact ⟨p1, [], .map [], 0, hW2.out.ps, hg2, Lib.hid (Kids.nil _ _ _ _ _), Lib.hid ⟨hm2.out, SeenD.nil, Nat.le_refl _⟩, Lib.hid ⟨Nat.zero_le _, hp1le, Nat.le_refl _, by rw [hr1.out]; exact comb_nil _, by have := hm2.out.lt; omega⟩⟩
    case round =>
      obtain ⟨q, cs, D, n, hps, hg, hKs, hM, H⟩ := hrel
      clear hne hne'
      have hpo := Lib.hid (hW.out.step hg.out hps H.out.2.1)
      have hgs := hg.out.size
      have hgo := H.out.2.2.2.1
      cases gk with
      | zero => exact absurd (hgo.symm.trans (by rw [pM]; rfl)) hout.out
      | succ f1 =>
        rw [pM] at hgo
        by_cases k5 : kindT ts q = 5
        · rw [if_pos k5] at hgo
          have TK := Lib.hid (fun w (h : PsW A B base s v ts q b w) => h.take_ok k5 (by decide))
          have hql := kindT_lt (ts := ts) (p := q) (by omega)
          replace k5 := Lib.hid k5
          replace hgo := Lib.hid hgo
          (go_wp2_with fail; repeat (any_goals (go_quiet (fail); go_wp2_with fail)))
          refine (TK.out _ hpo.out).mono ?_
          rintro e w3 ⟨⟨T3, hT3, rfl⟩, hP3, hg3⟩
          rw [textT_eq hT3, placeT_eq (s := s) hT3] at hgo
          have htl := htx.out T3 (List.mem_of_getElem? hT3)
          unfold tkV
          have hK3 := hKs.out.grown hg3 (by omega)
          have hlv3 : Hid (∀ k, u5.ownBlock = some k → k < w3.heap.size) := Lib.hid (fun k e => (hK3.own.lt k e).2)
          have hM3 := hM.out.1.kept hg3 (fun e => by cases e; omega)
          have hg4 := grown_trans hg.out hg3
          have hz3 := hg3.size
          clear TK hKs hps hpo
          replace hT3 := Lib.hid hT3
          replace hK3 := Lib.hid hK3
          replace hM3 := Lib.hid hM3
          replace hP3 := Lib.hid hP3
          replace hg4 := Lib.hid hg4
          replace hg3 := Lib.hid hg3
          have hkey := Go.WideMaps.keyOf_string_mk Tryz.underlying9 htl
          have hat := hM.out.2.1.at_ T3.text
          have x6 := hP3.out.env.e6
          have l6 := hP3.out.env.l6
          cases hkn : knows (cs.map Kid.key) T3.text with
          | true =>
            rw [hkn] at hat hgo
            rw [if_pos rfl] at hgo
            replace hgo := Lib.hid hgo
            replace hkn := Lib.hid hkn
            replace hat := Lib.hid hat
            have F := Lib.hid (fun w => fail_calls A 6 T3.fr w)
            go_wp2_with (at_lookup; refine lookup_bool _ rfl _ _ 166 rfl 9 4 (Go.Maps.string_keyed Tryz.underlying9) Tryz.underlying166 Tryz.underlying4 (by kernel_rfl) w.heap.size n D rfl (hM3.out.alloc _) _ (keyL T3.text) rfl hkey true hat.out ?_)
            refine (F.out _).mono ?_
            rintro e w6 ⟨⟨g, hgg, rfl, hat6⟩, hb⟩
            refine ⟨rfl, ?_⟩
            show PostM A s v b w r _ w6
            rw [← hgo.out]
            exact ⟨grown_belowR (grown_trans hg4.out (World.grownBy_alloc _ _ _)) hb, g, by simp at hgg; omega, rfl, hat6⟩
          | false =>
            rw [hkn] at hat hgo
            rw [if_neg Bool.false_ne_true] at hgo
            replace hgo := Lib.hid hgo
            replace hkn := Lib.hid hkn
            replace hat := Lib.hid hat
            go_wp2_with (first | (at_lookup; refine lookup_bool _ rfl _ _ 166 rfl 9 4 (Go.Maps.string_keyed Tryz.underlying9) Tryz.underlying166 Tryz.underlying4 (by kernel_rfl) w.heap.size n D rfl (hM3.out.alloc _) _ (keyL T3.text) rfl hkey false hat.out ?_) | (at_mapUpdate; refine wpList_mapUpdate_own _ rfl _ _ _ 166 rfl 9 4 (Go.Maps.string_keyed Tryz.underlying9) Tryz.underlying166 (plainElem (H := Unit) Tryz.prog 4) w.heap.size n D rfl (hM3.out.alloc _) (by have := hM.out.2.2; have := H.out.1; have := hl.out; unfold maxLen; omega) _ _ (keyL T3.text) rfl rfl hkey (.lit (.bool true)) [] (plainElem_bool Tryz.underlying4 true) ?_))
            intro w4 hM4 hg5
            have hbm : b ≠ w.heap.size := by omega
            have hps4 : PsB s v (q + 1) b w4 := PsB.row (hP3.out.ps.next ((Below.refl w3.heap.size w3).alloc (Nat.le_refl _) _)) hg5 (fun e => by cases e; omega)
            have hg6 : w.grownBy w4 (some b) := grown_own (grown_trans hg4.out (World.grownBy_alloc _ _ _)) hg5 (fun g e => by cases e; omega)
            have hK4 := (hK3.out.alloc (.cells #[.int .i64 (T3.kind : Int), .int .i64 (T3.fr : Int), .int .i64 (T3.to : Int), .string T3.text] 59 (0, 0))).grown hg5 (by omega)
            have hP4 := hW.out.step hg6 hps4 hql
            have hmz := H.out.2.2.2.2
            have t4 : w4.heap[w3.heap.size]? = some (.cells #[.int .i64 (T3.kind : Int), .int .i64 (T3.fr : Int), .int .i64 (T3.to : Int), .string T3.text] 59 (0, 0)) := by
              rw [hg5.block _ (by simp) (fun e => by have := Option.some.inj e; omega)]
              exact heap_alloc_new w3 _
            have hz4 := hg5.size
            have hz4' : w3.heap.size + 1 ≤ w4.heap.size := by simpa using hz4
            have hS4 := hM.out.2.1.put T3.text
            clear hg5 hps4 hK3 hM3 hP3 hg4 hg3 hz4 x6 l6 hat hkey
            replace hM4 := Lib.hid hM4
            replace hS4 := Lib.hid hS4
            replace hg6 := Lib.hid hg6
            replace hK4 := Lib.hid hK4
            replace hP4 := Lib.hid hP4
            replace t4 := Lib.hid t4
            by_cases k10 : kindT ts (q + 1) = 10
            · have hgo := hgo.out
              rw [if_pos k10] at hgo
              have TK := Lib.hid (fun w (h : PsW A B base s v ts (q + 1) b w) => h.take_ok k10 (by decide))
              have hql2 := kindT_lt (ts := ts) (p := q + 1) (by omega)
              replace k10 := Lib.hid k10
              replace hgo := Lib.hid hgo
              go_wp2_with fail
              refine (TK.out _ hP4.out).mono ?_
              rintro e w5 ⟨⟨T5, hT5, rfl⟩, hP5, hg7⟩
              replace hT5 := Lib.hid hT5
              unfold tkV
              have t5 : w5.heap[w3.heap.size]? = some (.cells #[.int .i64 (T3.kind : Int), .int .i64 (T3.fr : Int), .int .i64 (T3.to : Int), .string T3.text] 59 (0, 0)) := by
                rw [hg7.block _ (by omega) (fun e => by have := Option.some.inj e; omega)]
                exact t4.out
              have y1 : w5.cell? ⟨w3.heap.size, 1, none⟩ = some (.int .i64 (T3.fr : Int)) := cellB t5 1 rfl
              have y3 : w5.cell? ⟨w3.heap.size, 3, none⟩ = some (.string T3.text) := cellB t5 3 rfl
              have hK5 := hK4.out.grown hg7 (by omega)
              have hM5 := hM4.out.kept hg7 (fun e => by have := Option.some.inj e; omega)
              have hg8 := grown_trans hg6.out hg7
              have hz5 := hg7.size
              clear hg7 t4 hK4 hM4 hg6 TK
              replace hK5 := Lib.hid hK5
              replace hM5 := Lib.hid hM5
              replace hg8 := Lib.hid hg8
              replace hP5 := Lib.hid hP5
              replace t5 := Lib.hid t5
              have hVf := hV.out f1 (by have := H.out.2.2.1; omega)
              have hgo2 := hgo.out
              have hnv : pV s ts f1 (deep + 1) (q + 2) ≠ .out := by
                intro h
                rw [h] at hgo2
                exact hout.out hgo2.symm
              have V := Lib.hid (fun w' (h : PsW A B base s v ts (q + 2) b w') => hVf (deep + 1) (q + 2) b w' hnv (by omega) h)
              have hd1 : ((deep + 1 : Nat) : Int) = (deep : Int) + 1 := by omega
              rw [hd1] at V
              have fit := (p_goes s ts f1).1 (deep + 1) (q + 2)
              clear hgo
              generalize hR : pV s ts f1 (deep + 1) (q + 2) = R at *
              replace hR := Lib.hid hR
              cases R with
              | out => exact absurd rfl hnv
              | err k pl =>
                replace hgo2 := Lib.hid hgo2
                go_wp2_with fail
                refine wp_region_any (by kernel_rfl) ?_
                try (change wpAny _ _ _ _ _ _ _ (World.drew _))
                (refine wpAny_take (i := 0) (v := ?_) rfl (by kernel_rfl) (by kernel_rfl) (by kernel_rfl) (fun _ _ _ h => h) (Or.inl ⟨by rfl, ?_⟩) ?_; rotate_left; (intro w; go_simp; try with_reducible rfl))
                (refine wpAny_take (i := 1) (v := ?_) rfl (by kernel_rfl) (by kernel_rfl) (by kernel_rfl) (fun _ _ _ h => h) (Or.inl ⟨by rfl, ?_⟩) ?_; rotate_left; (intro w; go_simp; try with_reducible rfl))
                (refine wpAny_take (i := 3) (v := ?_) rfl (by kernel_rfl) (by kernel_rfl) (by kernel_rfl) (fun _ _ _ h => h) (Or.inl ⟨by rfl, ?_⟩) ?_; rotate_left; (intro w; go_simp; try with_reducible rfl))
                (refine wpAny_take (i := 5) (v := ?_) rfl (by kernel_rfl) (by kernel_rfl) (by kernel_rfl) (fun _ _ _ h => h) (Or.inl ⟨by rfl, ?_⟩) ?_; rotate_left; (intro w; go_simp; try with_reducible rfl))
                (refine wpAny_take (i := 6) (v := ?_) rfl (by kernel_rfl) (by kernel_rfl) (by kernel_rfl) (fun _ _ _ h => h) (Or.inl ⟨by rfl, ?_⟩) ?_; rotate_left; (intro w; go_simp; try with_reducible rfl))
                (refine wpAny_take (i := 7) (v := ?_) rfl (by kernel_rfl) (by kernel_rfl) (by kernel_rfl) (fun _ _ _ h => h) (Or.inl ⟨by rfl, ?_⟩) ?_; rotate_left; (intro w; go_simp; try with_reducible rfl))
                (refine wpAny_ready (rs := [2, 4, 8]) (by kernel_rfl) (by simp) ?_)
                refine AllReady.cons rfl (fun K hK => ?_) (AllReady.cons rfl (fun K hK => ?_) (AllReady.cons rfl (fun K hK => ?_) AllReady.nil))
                all_goals go_simp
                · refine hK _ _ ?_
                  clear hK K
                  (refine wpAny_ready (rs := [4, 8]) (by kernel_rfl) (by simp) ?_)
                  refine AllReady.cons rfl (fun K hK => ?_) (AllReady.cons rfl (fun K hK => ?_) AllReady.nil)
                  all_goals go_simp
                  · refine hK _ _ ?_
                    clear hK K
                    (refine wpAny_ready (rs := [8]) (by kernel_rfl) (by simp) ?_; refine AllReady.cons rfl (fun K hK => ?_) AllReady.nil; go_simp)
                    simp only [wrap_deep hd]
                    refine (V.out _ (hP5.out.next (by repeat (first | assumption | exact Below.refl _ _ | apply Below.drew | apply below_drewN | apply balloc | (refine Below.setCell ?_ (by first | omega | (simp <;> omega)) _))))).mono ?_
                    rintro e w6 ⟨hg9, g, hgg, rfl, hat⟩
                    refine ⟨rfl, ?_⟩
                    show PostM A s v b w r _ w6
                    rw [← hgo2.out]
                    exact ⟨grown_trans (grown_drew hg8.out) hg9, g, Nat.le_trans hg8.out.size hgg, rfl, hat⟩
                  · skip
                    simp only [wrap_deep hd]
                    refine (V.out _ (hP5.out.next (by repeat (first | assumption | exact Below.refl _ _ | apply Below.drew | apply below_drewN | apply balloc | (refine Below.setCell ?_ (by first | omega | (simp <;> omega)) _))))).mono ?_
                    rintro e w6 ⟨hg9, g, hgg, rfl, hat⟩
                    refine ⟨rfl, ?_⟩
                    show PostM A s v b w r _ w6
                    rw [← hgo2.out]
                    exact ⟨grown_trans (grown_drew hg8.out) hg9, g, Nat.le_trans hg8.out.size hgg, rfl, hat⟩
                · refine hK _ _ ?_
                  clear hK K
                  (refine wpAny_ready (rs := [2, 8]) (by kernel_rfl) (by simp) ?_)
                  refine AllReady.cons rfl (fun K hK => ?_) (AllReady.cons rfl (fun K hK => ?_) AllReady.nil)
                  all_goals go_simp
                  · refine hK _ _ ?_
                    clear hK K
                    (refine wpAny_ready (rs := [8]) (by kernel_rfl) (by simp) ?_; refine AllReady.cons rfl (fun K hK => ?_) AllReady.nil; go_simp)
                    simp only [wrap_deep hd]
                    refine (V.out _ (hP5.out.next (by repeat (first | assumption | exact Below.refl _ _ | apply Below.drew | apply below_drewN | apply balloc | (refine Below.setCell ?_ (by first | omega | (simp <;> omega)) _))))).mono ?_
                    rintro e w6 ⟨hg9, g, hgg, rfl, hat⟩
                    refine ⟨rfl, ?_⟩
                    show PostM A s v b w r _ w6
                    rw [← hgo2.out]
                    exact ⟨grown_trans (grown_drew hg8.out) hg9, g, Nat.le_trans hg8.out.size hgg, rfl, hat⟩
                  · skip
                    simp only [wrap_deep hd]
                    refine (V.out _ (hP5.out.next (by repeat (first | assumption | exact Below.refl _ _ | apply Below.drew | apply below_drewN | apply balloc | (refine Below.setCell ?_ (by first | omega | (simp <;> omega)) _))))).mono ?_
                    rintro e w6 ⟨hg9, g, hgg, rfl, hat⟩
                    refine ⟨rfl, ?_⟩
                    show PostM A s v b w r _ w6
                    rw [← hgo2.out]
                    exact ⟨grown_trans (grown_drew hg8.out) hg9, g, Nat.le_trans hg8.out.size hgg, rfl, hat⟩
                · skip
                  simp only [wrap_deep hd]
                  refine (V.out _ (hP5.out.next (by repeat (first | assumption | exact Below.refl _ _ | apply Below.drew | apply below_drewN | apply balloc | (refine Below.setCell ?_ (by first | omega | (simp <;> omega)) _))))).mono ?_
                  rintro e w6 ⟨hg9, g, hgg, rfl, hat⟩
                  refine ⟨rfl, ?_⟩
                  show PostM A s v b w r _ w6
                  rw [← hgo2.out]
                  exact ⟨grown_trans (grown_drew hg8.out) hg9, g, Nat.le_trans hg8.out.size hgg, rfl, hat⟩
              | ok x q1 =>
                have hfit : q + 2 < q1 ∧ q1 ≤ ts.length := fit
                replace hgo2 := Lib.hid hgo2
                have hTH : TokHeld w3.heap.size T3 w5 := t5.out
                have hTb : w3.heap.size ≠ b := by omega
                have hle : Hid (∀ c ∈ cs, c.h ≤ w5.heap.size) := Lib.hid (fun c hm => (hK5.out.fit c hm).2.2.1)
                have hlv : Hid (∀ k, u5.ownBlock = some k → k < w5.heap.size) := Lib.hid (fun k e => (hK5.out.own.lt k e).2)
                have hbn : b < w.heap.size + 1 := by omega
                have hn5 : w.heap.size + 1 ≤ w5.heap.size := by omega
                clear t5 y1 y3
                go_wp2_with fail
                go_region_held3 (fun w' => w'.cell? ⟨w3.heap.size, 1, none⟩ = some (.int .i64 (T3.fr : Int)) ∧ w'.cell? ⟨w3.heap.size, 3, none⟩ = some (.string T3.text) ∧ TokHeld w3.heap.size T3 w') (first | exact TokHeld.cells ‹_› | exact TokHeld.cells (TokHeld.alloc ‹_› _) | exact TokHeld.cells hTH.drew) (first | (go_at_call 31; simp only [wrap_deep hd]; refine (V.out _ (hP5.out.next (by repeat (first | assumption | exact Below.refl _ _ | apply Below.drew | apply below_drewN | apply balloc | (refine Below.setCell ?_ (by first | omega | (simp <;> omega)) _))))).mono ?_; rintro e w6 ⟨hg9, u, rfl, hN, hps6⟩; obtain ⟨ut, ua, rfl⟩ := hN.form; have hTH6 := TokHeld.grown hTH.drew hg9 hTb; have hK6 := Lib.hid (hK5.out.drew.grown hg9 hbn); have hz6 := hg9.size; replace hg9 := Lib.hid hg9; replace hN := Lib.hid hN; replace hps6 := Lib.hid hps6) | (refine step_app_kid rfl _ _ 99 103 3 40 memC (.agg #[.string ⟨#[]⟩, .int .i64 0, .nilIface]) infoMem rfl (by decide) (by decide) (fun _ => rfl) Tryz.underlying99 rfl (w.heap.size + 1) w5.heap.size u5 cs rfl (hK6.out.alloc _) w6.heap.size 1 ⟨T3.text, T3.fr, w5.heap.size, w6.heap.size + 1, .iface ut ua, x⟩ #[.string T3.text, .int .i64 (T3.fr : Int), .iface ut ua] 103 rfl (heap_alloc_new w6 _) rfl (by have := H.out.1; have := H.out.2.1; have := hl.out; omega) hn5 (by have : w5.heap.size ≤ w6.heap.size := hz6; simp; omega) hle.out hlv.out rfl (by simp) ((hN.out.keep fun k _ h2 => Below.heap_alloc _ _ _ h2).wide (Nat.le_refl _) (by simp)) (by simp [memC, Value.oneCell']) ?_; intro v' w7 hK7 hg10; have hTH7 := TokHeld.row (TokHeld.alloc hTH6 (.cells #[.string T3.text, .int .i64 (T3.fr : Int), .iface ut ua] 103 (0, 0))) hg10 (fun e => by have := hlv3.out _ e; omega)))
                have hne5 : u5.ownBlock ≠ some b := fun e => by have := (hK6.out.own.lt b e).1; omega
                have hps7 : PsB s v q1 b w7 := PsB.row (hps6.out.next ((Below.refl w6.heap.size w6).alloc (Nat.le_refl _) _)) hg10 hne5
                have hg11 : w.grownBy w7 (some b) := grown_own (grown_trans (grown_trans (grown_drew hg8.out) hg9.out) (World.grownBy_alloc _ _ _)) hg10 (fun k e => by have := (hK6.out.own.lt k e).1; omega)
                have hM7 := (((hM5.out.kept (grown_drew (grown_refl w5 none)) (by simp)).kept hg9.out (fun e => by have := Option.some.inj e; omega)).alloc (.cells #[.string T3.text, .int .i64 (T3.fr : Int), .iface ut ua] 103 (0, 0))).kept hg10 (fun e => by have := (hK6.out.own.lt _ e.symm).1; omega)
                have hz7 := hg10.size
                have hz7' : w6.heap.size + 1 ≤ w7.heap.size := by simpa using hz7
                have hz56 : w5.heap.size ≤ w6.heap.size := hz6
                have hP7 := hW.out.step hg11 hps7 hfit.2
                clear hz6 hz7 hg10 hne5 hps7 hps6 hg9 hg8 hK6 hN hK5 hM5 hTH hTH6 hTH7 hP5 hle hlv hlv3 V
                replace hK7 := Lib.hid hK7
                replace hM7 := Lib.hid hM7
                replace hg11 := Lib.hid hg11
                have fitr := rest_fits s ts 7 q1 (by decide)
                have hgo3 := hgo2.out
                unfold rest at fitr hgo3
                have N := Lib.hid (fun w (h : PsW A B base s v ts q1 b w) => h.next_calls (k := kindT ts q1) rfl)
                by_cases k7 : kindT ts q1 = 7
                · rw [if_pos k7] at hgo3
                  rw [k7] at N
                  have hqb : (q1 : Int) ≤ 3518437208882 := by have := hl.out; omega
                  replace hP7 := Lib.hid hP7
                  (go_wp2_with fail; repeat (any_goals (go_quiet (fail); go_wp2_with fail)))
                  refine (N.out _ hP7.out).mono ?_
                  rintro e w8 ⟨rfl, hb⟩
                  have hP8 := hP7.out.next hb
                  have hg12 := grown_belowR hg11.out hb
                  have hK8 := hK7.out.below hb
                  clear hb
                  have x2 := hP8.ps.c2
                  have f2 := freeB hP8.ps 2
                  replace hP8 := Lib.hid hP8
                  replace hg12 := Lib.hid hg12
                  replace hK8 := Lib.hid hK8
                  (go_wp2_with fail; repeat (any_goals (go_quiet (fail); go_wp2_with fail)))
                  go_ret
                  refine ⟨grown_trans hg12.out (grown_set _ _ _ _), ?_⟩
                  rw [← hgo3]
                  exact ⟨v', _, rfl, (hK8.out.grown (grown_set _ _ _ _) hbn).low (Nat.le_succ _), by rw [List.map_append]; rfl, hP8.out.ps.inc⟩
                · rw [if_neg k7] at hgo3
                  have hne5 : ((kindT ts q1 : Int) == 7) = false := by simp; omega
                  have hne6 : ¬ (kindT ts q1 : Int) = 7 := by omega
                  by_cases k11 : kindT ts q1 = 11
                  · rw [if_pos k11] at hgo3
                    have TK := Lib.hid (fun w (h : PsW A B base s v ts q1 b w) => h.take_ok k11 (by decide))
                    have hql3 := kindT_lt (ts := ts) (p := q1) (by omega)
                    replace k11 := Lib.hid k11
                    generalize kindT ts q1 = K2 at *
                    replace hP7 := Lib.hid hP7
                    replace hgo3 := Lib.hid hgo3
                    (go_wp2_with fail; repeat (any_goals (go_quiet (fail); go_wp2_with fail)))
                    refine (N.out _ hP7.out).mono ?_
                    rintro e w8 ⟨rfl, hb⟩
                    have hP8 := hP7.out.next hb
                    have hg12 := grown_belowR hg11.out hb
                    have hK8 := hK7.out.below hb
                    have hM8 := hM7.out.kept (grown_of_below (r := none) hb) (by simp)
                    clear hb
                    replace hP8 := Lib.hid hP8
                    replace hg12 := Lib.hid hg12
                    replace hK8 := Lib.hid hK8
                    replace hM8 := Lib.hid hM8
                    (go_wp2_with fail; repeat (any_goals (go_quiet (fail); go_wp2_with fail)))
                    refine (TK.out _ hP8.out).mono ?_
                    rintro e w9 ⟨⟨T2, _, rfl⟩, hP9, hg13⟩
                    unfold tkV
                    have hK9 := hK8.out.grown hg13 hbn
                    have hM9 := hM8.out.kept hg13 (fun e => by have := Option.some.inj e; omega)
                    have hg14 := grown_trans hg12.out hg13
                    have hz9 := hM9.lt
                    replace hP9 := Lib.hid hP9
                    (go_wp2_with fail; repeat (any_goals (go_quiet (fail); go_wp2_with fail)))
                    go_roundg f1
                    case measure => omega
                    case rel =>
                      refine ⟨q1 + 1, cs ++ [_], _, n + 1, hP9.out.ps, Lib.hid hg14, Lib.hid hK9, Lib.hid ⟨hM9, ?_, ?_⟩, Lib.hid ⟨?_, hql3, by have := H.out.2.2.1; omega, ?_, by omega⟩⟩
                      · rw [List.map_append]
                        exact hS4.out
                      · rw [List.length_append, List.length_singleton]; have := hM.out.2.2; omega
                      · rw [List.length_append, List.length_singleton]; have := H.out.1; omega
                      · rw [← hgo3.out, List.map_append, List.map_append]
                        show comb (cs.map Kid.mem ++ [(T3.text, T3.fr, x)]) (pM s ts f1 deep (cs.map Kid.key ++ [T3.text]) (q1 + 1)) = comb (cs.map Kid.mem) _
                        cases pM s ts f1 deep (cs.map Kid.key ++ [T3.text]) (q1 + 1) with
                        | ok ys q => show PR.ok _ _ = PR.ok _ _; rw [List.append_assoc]; rfl
                        | err k pl => rfl
                        | out => rfl
                  · rw [if_neg k11] at hgo3
                    have TK := Lib.hid (fun w (h : PsW A B base s v ts q1 b w) => h.take_bad k11)
                    replace k11 := Lib.hid k11
                    generalize kindT ts q1 = K2 at *
                    replace hP7 := Lib.hid hP7
                    replace hgo3 := Lib.hid hgo3
                    (go_wp2_with fail; repeat (any_goals (go_quiet (fail); go_wp2_with fail)))
                    refine (N.out _ hP7.out).mono ?_
                    rintro e w8 ⟨rfl, hb⟩
                    have hP8 := hP7.out.next hb
                    have hg12 := grown_belowR hg11.out hb
                    clear hb
                    replace hP8 := Lib.hid hP8
                    replace hg12 := Lib.hid hg12
                    (go_wp2_with fail; repeat (any_goals (go_quiet (fail); go_wp2_with fail)))
                    refine (TK.out _ hP8.out).mono ?_
                    rintro e w9 ⟨⟨g, hgg, rfl, hat⟩, hb⟩
                    have hz := hg12.out.size
                    refine ⟨rfl, ?_⟩
                    show PostM A s v b w r _ w9
                    rw [← hgo3.out]
                    exact ⟨grown_belowR hg12.out hb, g, Nat.le_trans hz hgg, rfl, hat⟩
            · have hgo := hgo.out
              rw [if_neg k10] at hgo
              have TK := Lib.hid (fun w (h : PsW A B base s v ts (q + 1) b w) => h.take_bad k10)
              replace k10 := Lib.hid k10
              replace hgo := Lib.hid hgo
              go_wp2_with fail
              refine (TK.out _ hP4.out).mono ?_
              rintro e w6 ⟨⟨g, hgg, rfl, hat⟩, hb⟩
              refine ⟨rfl, ?_⟩
              show PostM A s v b w r _ w6
              rw [← hgo.out]
              exact ⟨grown_belowR hg6.out hb, g, by omega, rfl, hat⟩
        · rw [if_neg k5] at hgo
          have TK := Lib.hid (fun w (h : PsW A B base s v ts q b w) => h.take_bad k5)
          replace k5 := Lib.hid k5
          replace hgo := Lib.hid hgo
          (go_wp2_with fail; repeat (any_goals (go_quiet (fail); go_wp2_with fail)))
          refine (TK.out _ hpo.out).mono ?_
          rintro e w6 ⟨⟨g, hgg, rfl, hat⟩, hb⟩
          refine ⟨rfl, ?_⟩
          show PostM A s v b w r _ w6
          rw [← hgo.out]
          exact ⟨grown_belowR hg.out hb, g, Nat.le_trans hgs hgg, rfl, hat⟩

end Go.Proofs.YtibopkodoidjoaaGreatDoor

/- Package tree: the parser reads a value. -/
namespace Go.Proofs.YtibopkodoidjoaaGreatDoor
open Go Go.RowKit

/-- What is asked of the tokens. -/
structure TsOk (s : ByteArray) (ts : List Tk) : Prop where
  len : ts.length ≤ 3518437208882
  txt : ∀ T ∈ ts, T.text.size ≤ maxLen
  bd : ∀ T ∈ ts, T.fr ≤ T.to ∧ T.to ≤ s.size
  sz : s.size ≤ 3518437208882
@[go_sem] theorem field_tk (k n m : Int) (x : ByteArray) (w : World) : (Instr.field 59 (.agg #[.int .i64 k, .int .i64 n, .int .i64 m, .string x]) 3).run Tryz.prog w = .ok (.string x) w := by kernel_rfl
def WhHeld (g : Nat) (P : Nat) (w : World) : Prop := w.heap[g]? = some (.cells #[.int .i64 (P : Int)] 88 (0, 0))
theorem WhHeld.c0 {g P : Nat} {w : World} (h : WhHeld g P w) : w.cell? ⟨g, 0, none⟩ = some (.int .i64 (P : Int)) := cellB h 0 rfl
theorem WhHeld.cells {g P : Nat} {w : World} (h : WhHeld g P w) : w.cell? ⟨g, 0, none⟩ = some (.int .i64 (P : Int)) ∧ WhHeld g P w := ⟨cellB h 0 rfl, h⟩
theorem WhHeld.drew {g P : Nat} {w : World} (h : WhHeld g P w) : WhHeld g P w.drew := h
theorem WhHeld.grown {g b P : Nat} {w w' : World} (h : WhHeld g P w) (hg : w.grownBy w' (some b)) (hne : g ≠ b) : WhHeld g P w' := (hg.block g (ltB h) (fun e => hne (Option.some.inj e))).trans h
section
variable {A : Nat → Addr} {B base : Nat} {s : ByteArray} {v : Value} {ts : List Tk}
set_option maxHeartbeats 1000000 in
set_option maxRecDepth 100000 in
theorem value_null (deep p b : Nat) (w : World) (hW : PsW A B base s v ts p b w) (hO : TsOk s ts) (hk : kindT ts p = 1) (_hd : deep ≤ 64) :
    Calls Tryz.prog 31 #[.pointer (some ⟨b, 0, none⟩), .int .i64 (deep : Int)] w (PostV A s v b w (.ok (.null (placeT s ts p)) (p + 1))) := by
  have hbl := hW.lt
  have Pl := Lib.hid (fun w (h : PsW A B base s v ts p b w) => h.place_calls)
  have N := Lib.hid (fun w (h : PsW A B base s v ts p b w) => h.next_calls hk)
  have hple := hW.hp
  have hpb : (p : Int) ≤ 3518437208882 := by have := hO.len; omega
  replace hW := Lib.hid hW
  replace hO := Lib.hid hO
  obtain ⟨P, hP⟩ : ∃ P, P = placeT s ts p := ⟨_, rfl⟩
  rw [← hP] at Pl ⊢
  replace hP := Lib.hid hP
  go_enter Tryz.func31, Tryz.ntmps31
  (go_wp2_with fail; repeat (any_goals (go_quiet (fail); go_wp2_with fail)))
  refine (Pl.out _ (hW.out.next (by repeat (first | assumption | exact Below.refl _ _ | apply Below.drew | apply below_drewN | apply balloc | (refine Below.setCell ?_ (by first | omega | (simp <;> omega)) _))))).mono ?_
  rintro e w1 ⟨rfl, hb⟩
  have hb1 : Below w.heap.size w w1 := bcall (by repeat (first | assumption | exact Below.refl _ _ | apply Below.drew | apply below_drewN | apply balloc | (refine Below.setCell ?_ (by first | omega | (simp <;> omega)) _))) hb
  clear hb
  (go_wp2_with fail; repeat (any_goals (go_quiet (fail); go_wp2_with fail)))
  refine (N.out _ (hW.out.next (by repeat (first | assumption | exact Below.refl _ _ | apply Below.drew | apply below_drewN | apply balloc | (refine Below.setCell ?_ (by first | omega | (simp <;> omega)) _))))).mono ?_
  rintro e w2 ⟨rfl, hb⟩
  have hb2 : Below w.heap.size w w2 := bcall (by repeat (first | assumption | exact Below.refl _ _ | apply Below.drew | apply below_drewN | apply balloc | (refine Below.setCell ?_ (by first | omega | (simp <;> omega)) _))) hb
  have t2 : WhHeld w1.heap.size P w2 := boxed hb
  clear hb
  have hW2 := hW.out.next hb2
  have y0 := t2.c0
  have x2 := hW2.ps.c2
  have f2 := freeB hW2.ps 2
  have hz1 := hb1.size
  have hz2 := hb2.size
  have hb12 : w1.heap.size ≠ b := by omega
  replace hW2 := Lib.hid hW2
  clear N Pl
  (go_wp2_with fail; repeat (any_goals (go_quiet (fail); go_wp2_with fail)))
  go_ret
  exact ⟨grown_trans (grown_of_below hb2) (grown_set _ _ _ _), _, rfl, .null _ _ _, hW2.out.ps.inc⟩
set_option maxHeartbeats 1000000 in
set_option maxRecDepth 100000 in
theorem value_true (deep p b : Nat) (w : World) (hW : PsW A B base s v ts p b w) (hO : TsOk s ts) (hk : kindT ts p = 2) (_hd : deep ≤ 64) :
    Calls Tryz.prog 31 #[.pointer (some ⟨b, 0, none⟩), .int .i64 (deep : Int)] w (PostV A s v b w (.ok (.flag (placeT s ts p) true) (p + 1))) := by
  have hbl := hW.lt
  have Pl := Lib.hid (fun w (h : PsW A B base s v ts p b w) => h.place_calls)
  have N := Lib.hid (fun w (h : PsW A B base s v ts p b w) => h.next_calls hk)
  have hple := hW.hp
  have hpb : (p : Int) ≤ 3518437208882 := by have := hO.len; omega
  replace hW := Lib.hid hW
  replace hO := Lib.hid hO
  obtain ⟨P, hP⟩ : ∃ P, P = placeT s ts p := ⟨_, rfl⟩
  rw [← hP] at Pl ⊢
  replace hP := Lib.hid hP
  go_enter Tryz.func31, Tryz.ntmps31
  (go_wp2_with fail; repeat (any_goals (go_quiet (fail); go_wp2_with fail)))
  refine (Pl.out _ (hW.out.next (by repeat (first | assumption | exact Below.refl _ _ | apply Below.drew | apply below_drewN | apply balloc | (refine Below.setCell ?_ (by first | omega | (simp <;> omega)) _))))).mono ?_
  rintro e w1 ⟨rfl, hb⟩
  have hb1 : Below w.heap.size w w1 := bcall (by repeat (first | assumption | exact Below.refl _ _ | apply Below.drew | apply below_drewN | apply balloc | (refine Below.setCell ?_ (by first | omega | (simp <;> omega)) _))) hb
  clear hb
  (go_wp2_with fail; repeat (any_goals (go_quiet (fail); go_wp2_with fail)))
  refine (N.out _ (hW.out.next (by repeat (first | assumption | exact Below.refl _ _ | apply Below.drew | apply below_drewN | apply balloc | (refine Below.setCell ?_ (by first | omega | (simp <;> omega)) _))))).mono ?_
  rintro e w2 ⟨rfl, hb⟩
  have hb2 : Below w.heap.size w w2 := bcall (by repeat (first | assumption | exact Below.refl _ _ | apply Below.drew | apply below_drewN | apply balloc | (refine Below.setCell ?_ (by first | omega | (simp <;> omega)) _))) hb
  have t2 : WhHeld w1.heap.size P w2 := boxed hb
  clear hb
  have hW2 := hW.out.next hb2
  have y0 := t2.c0
  have x2 := hW2.ps.c2
  have f2 := freeB hW2.ps 2
  have hz1 := hb1.size
  have hz2 := hb2.size
  have hb12 : w1.heap.size ≠ b := by omega
  replace hW2 := Lib.hid hW2
  clear N Pl
  (go_wp2_with fail; repeat (any_goals (go_quiet (fail); go_wp2_with fail)))
  go_ret
  exact ⟨grown_trans (grown_of_below hb2) (grown_set _ _ _ _), _, rfl, .flag _ _ _ _, hW2.out.ps.inc⟩
set_option maxHeartbeats 1000000 in
set_option maxRecDepth 100000 in
theorem value_false (deep p b : Nat) (w : World) (hW : PsW A B base s v ts p b w) (hO : TsOk s ts) (hk : kindT ts p = 3) (_hd : deep ≤ 64) :
    Calls Tryz.prog 31 #[.pointer (some ⟨b, 0, none⟩), .int .i64 (deep : Int)] w (PostV A s v b w (.ok (.flag (placeT s ts p) false) (p + 1))) := by
  have hbl := hW.lt
  have Pl := Lib.hid (fun w (h : PsW A B base s v ts p b w) => h.place_calls)
  have N := Lib.hid (fun w (h : PsW A B base s v ts p b w) => h.next_calls hk)
  have hple := hW.hp
  have hpb : (p : Int) ≤ 3518437208882 := by have := hO.len; omega
  replace hW := Lib.hid hW
  replace hO := Lib.hid hO
  obtain ⟨P, hP⟩ : ∃ P, P = placeT s ts p := ⟨_, rfl⟩
  rw [← hP] at Pl ⊢
  replace hP := Lib.hid hP
  go_enter Tryz.func31, Tryz.ntmps31
  (go_wp2_with fail; repeat (any_goals (go_quiet (fail); go_wp2_with fail)))
  refine (Pl.out _ (hW.out.next (by repeat (first | assumption | exact Below.refl _ _ | apply Below.drew | apply below_drewN | apply balloc | (refine Below.setCell ?_ (by first | omega | (simp <;> omega)) _))))).mono ?_
  rintro e w1 ⟨rfl, hb⟩
  have hb1 : Below w.heap.size w w1 := bcall (by repeat (first | assumption | exact Below.refl _ _ | apply Below.drew | apply below_drewN | apply balloc | (refine Below.setCell ?_ (by first | omega | (simp <;> omega)) _))) hb
  clear hb
  (go_wp2_with fail; repeat (any_goals (go_quiet (fail); go_wp2_with fail)))
  refine (N.out _ (hW.out.next (by repeat (first | assumption | exact Below.refl _ _ | apply Below.drew | apply below_drewN | apply balloc | (refine Below.setCell ?_ (by first | omega | (simp <;> omega)) _))))).mono ?_
  rintro e w2 ⟨rfl, hb⟩
  have hb2 : Below w.heap.size w w2 := bcall (by repeat (first | assumption | exact Below.refl _ _ | apply Below.drew | apply below_drewN | apply balloc | (refine Below.setCell ?_ (by first | omega | (simp <;> omega)) _))) hb
  have t2 : WhHeld w1.heap.size P w2 := boxed hb
  clear hb
  have hW2 := hW.out.next hb2
  have y0 := t2.c0
  have x2 := hW2.ps.c2
  have f2 := freeB hW2.ps 2
  have hz1 := hb1.size
  have hz2 := hb2.size
  have hb12 : w1.heap.size ≠ b := by omega
  replace hW2 := Lib.hid hW2
  clear N Pl
  (go_wp2_with fail; repeat (any_goals (go_quiet (fail); go_wp2_with fail)))
  go_ret
  exact ⟨grown_trans (grown_of_below hb2) (grown_set _ _ _ _), _, rfl, .flag _ _ _ _, hW2.out.ps.inc⟩
set_option maxHeartbeats 1000000 in
set_option maxRecDepth 100000 in
theorem value_num (deep p b : Nat) (w : World) (hW : PsW A B base s v ts p b w) (hO : TsOk s ts) (hk : kindT ts p = 4) (_hd : deep ≤ 64) :
    Calls Tryz.prog 31 #[.pointer (some ⟨b, 0, none⟩), .int .i64 (deep : Int)] w (PostV A s v b w (.ok (.num (placeT s ts p) (wordT s ts p)) (p + 1))) := by
  have TK := Lib.hid (fun w (h : PsW A B base s v ts p b w) => h.take_ok hk (by decide))
  have hbl := hW.lt
  have Pl := Lib.hid (fun w (h : PsW A B base s v ts p b w) => h.place_calls)
  have N := Lib.hid (fun w (h : PsW A B base s v ts p b w) => h.next_calls hk)
  have hple := hW.hp
  have hpb : (p : Int) ≤ 3518437208882 := by have := hO.len; omega
  replace hW := Lib.hid hW
  replace hO := Lib.hid hO
  obtain ⟨P, hP⟩ : ∃ P, P = placeT s ts p := ⟨_, rfl⟩
  rw [← hP] at Pl ⊢
  replace hP := Lib.hid hP
  go_enter Tryz.func31, Tryz.ntmps31
  (go_wp2_with fail; repeat (any_goals (go_quiet (fail); go_wp2_with fail)))
  refine (Pl.out _ (hW.out.next (by repeat (first | assumption | exact Below.refl _ _ | apply Below.drew | apply below_drewN | apply balloc | (refine Below.setCell ?_ (by first | omega | (simp <;> omega)) _))))).mono ?_
  rintro e w1 ⟨rfl, hb⟩
  have hb1 : Below w.heap.size w w1 := bcall (by repeat (first | assumption | exact Below.refl _ _ | apply Below.drew | apply below_drewN | apply balloc | (refine Below.setCell ?_ (by first | omega | (simp <;> omega)) _))) hb
  clear hb
  (go_wp2_with fail; repeat (any_goals (go_quiet (fail); go_wp2_with fail)))
  refine (N.out _ (hW.out.next (by repeat (first | assumption | exact Below.refl _ _ | apply Below.drew | apply below_drewN | apply balloc | (refine Below.setCell ?_ (by first | omega | (simp <;> omega)) _))))).mono ?_
  rintro e w2 ⟨rfl, hb⟩
  have hb2 : Below w.heap.size w w2 := bcall (by repeat (first | assumption | exact Below.refl _ _ | apply Below.drew | apply below_drewN | apply balloc | (refine Below.setCell ?_ (by first | omega | (simp <;> omega)) _))) hb
  have t2 : WhHeld w1.heap.size P w2 := boxed hb
  clear hb
  have hW2 := hW.out.next hb2
  have y0 := t2.c0
  have x2 := hW2.ps.c2
  have f2 := freeB hW2.ps 2
  have hz1 := hb1.size
  have hz2 := hb2.size
  have hb12 : w1.heap.size ≠ b := by omega
  replace hW2 := Lib.hid hW2
  clear N Pl
  (go_wp2_with fail; repeat (any_goals (go_quiet (fail); go_wp2_with fail)))
  refine (TK.out _ (hW2.out.next (by repeat (first | assumption | exact Below.refl _ _ | apply Below.drew | apply below_drewN | apply balloc | (refine Below.setCell ?_ (by first | omega | (simp <;> omega)) _))))).mono ?_
  rintro e w3 ⟨⟨T, hT, rfl⟩, hW3, hg3⟩
  unfold tkV
  have hTb := hO.out.bd T (List.mem_of_getElem? hT)
  have hsz := hO.out.sz
  have b1 : (T.fr : Int) ≤ (T.to : Int) := by omega
  have b2 : (T.to : Int) ≤ (s.size : Int) := by omega
  have b3 : (s.size : Int) ≤ 3518437208882 := by omega
  have hw : wordT s ts p = s.extract T.fr T.to := by unfold wordT; rw [hT]
  have t3 := t2.grown hg3 hb12
  have z0 := t3.c0
  have z1 := hW3.ps.c0
  have hz3 := hg3.size
  have hlt := ltB t3
  have hb3 : b < w3.heap.size := by omega
  clear hTb hsz y0 x2 f2
  replace hW3 := Lib.hid hW3
  replace hT := Lib.hid hT
  replace hw := Lib.hid hw
  go_wp2_with fail
  go_quiet (fail)
  (go_wp2_with fail; repeat (any_goals (go_quiet (fail); go_wp2_with fail)))
  go_ret
  rw [hw.out]
  exact ⟨grown_drewN (grown_trans (grown_of_below hb2) (grown_trans hg3 (World.grownBy_alloc _ _ _))) _, .iface 94 (.agg #[.int .i64 (P : Int), .string (s.extract T.fr T.to)]), rfl, .num _ _ _ _, (hW3.out.next (below_drewN ((Below.refl _ _).alloc (Nat.le_refl _) _) _)).ps⟩
set_option maxHeartbeats 1000000 in
set_option maxRecDepth 100000 in
theorem value_text (deep p b : Nat) (w : World) (hW : PsW A B base s v ts p b w) (hO : TsOk s ts) (hk : kindT ts p = 5) (_hd : deep ≤ 64) :
    Calls Tryz.prog 31 #[.pointer (some ⟨b, 0, none⟩), .int .i64 (deep : Int)] w (PostV A s v b w (.ok (.text (placeT s ts p) (textT ts p)) (p + 1))) := by
  have TK := Lib.hid (fun w (h : PsW A B base s v ts p b w) => h.take_ok hk (by decide))
  have hbl := hW.lt
  have Pl := Lib.hid (fun w (h : PsW A B base s v ts p b w) => h.place_calls)
  have N := Lib.hid (fun w (h : PsW A B base s v ts p b w) => h.next_calls hk)
  have hple := hW.hp
  have hpb : (p : Int) ≤ 3518437208882 := by have := hO.len; omega
  replace hW := Lib.hid hW
  replace hO := Lib.hid hO
  obtain ⟨P, hP⟩ : ∃ P, P = placeT s ts p := ⟨_, rfl⟩
  rw [← hP] at Pl ⊢
  replace hP := Lib.hid hP
  go_enter Tryz.func31, Tryz.ntmps31
  (go_wp2_with fail; repeat (any_goals (go_quiet (fail); go_wp2_with fail)))
  refine (Pl.out _ (hW.out.next (by repeat (first | assumption | exact Below.refl _ _ | apply Below.drew | apply below_drewN | apply balloc | (refine Below.setCell ?_ (by first | omega | (simp <;> omega)) _))))).mono ?_
  rintro e w1 ⟨rfl, hb⟩
  have hb1 : Below w.heap.size w w1 := bcall (by repeat (first | assumption | exact Below.refl _ _ | apply Below.drew | apply below_drewN | apply balloc | (refine Below.setCell ?_ (by first | omega | (simp <;> omega)) _))) hb
  clear hb
  (go_wp2_with fail; repeat (any_goals (go_quiet (fail); go_wp2_with fail)))
  refine (N.out _ (hW.out.next (by repeat (first | assumption | exact Below.refl _ _ | apply Below.drew | apply below_drewN | apply balloc | (refine Below.setCell ?_ (by first | omega | (simp <;> omega)) _))))).mono ?_
  rintro e w2 ⟨rfl, hb⟩
  have hb2 : Below w.heap.size w w2 := bcall (by repeat (first | assumption | exact Below.refl _ _ | apply Below.drew | apply below_drewN | apply balloc | (refine Below.setCell ?_ (by first | omega | (simp <;> omega)) _))) hb
  have t2 : WhHeld w1.heap.size P w2 := boxed hb
  clear hb
  have hW2 := hW.out.next hb2
  have y0 := t2.c0
  have x2 := hW2.ps.c2
  have f2 := freeB hW2.ps 2
  have hz1 := hb1.size
  have hz2 := hb2.size
  have hb12 : w1.heap.size ≠ b := by omega
  replace hW2 := Lib.hid hW2
  clear N Pl
  clear y0 x2 f2
  go_wp2_with fail
  go_region_held3 (fun w' => w'.cell? ⟨w1.heap.size, 0, none⟩ = some (.int .i64 (P : Int)) ∧ WhHeld w1.heap.size P w') (first | exact WhHeld.cells ‹_› | exact WhHeld.cells t2.drew) ((go_at_call 58; refine (TK.out _ (hW2.out.next (by repeat (first | assumption | exact Below.refl _ _ | apply Below.drew | apply below_drewN | apply balloc | (refine Below.setCell ?_ (by first | omega | (simp <;> omega)) _))))).mono ?_; rintro e w3 ⟨⟨T, hT, rfl⟩, hW3, hg3⟩; unfold tkV; have hte := Lib.hid (textT_eq hT); have t3 := WhHeld.grown t2.drew hg3 hb12; replace hT := Lib.hid hT; replace hg3 := Lib.hid hg3; replace hW3 := Lib.hid hW3))
  (go_wp2_with fail; repeat (any_goals (go_quiet (fail); go_wp2_with fail)))
  go_ret
  rw [hte.out]
  exact ⟨grown_trans (grown_drew (grown_of_below hb2)) hg3.out, _, rfl, .text _ _ _ _, hW3.out.ps⟩
theorem kind_bad {k : Nat} (h1 : k ≠ 1) (h2 : k ≠ 2) (h3 : k ≠ 3) (h4 : k ≠ 4) (h5 : k ≠ 5) (h6 : k ≠ 6) (h8 : k ≠ 8) : ((k : Int) == 1) = false ∧ ((k : Int) == 2) = false ∧ ((k : Int) == 3) = false ∧ ((k : Int) == 4) = false ∧ ((k : Int) == 5) = false ∧ ((k : Int) == 6) = false ∧ ((k : Int) == 8) = false := by
  simp; omega
set_option maxHeartbeats 1000000 in
set_option maxRecDepth 100000 in
theorem value_none (deep p b : Nat) (w : World) (hW : PsW A B base s v ts p b w) (hO : TsOk s ts) (_hd : deep ≤ 64) (h1 : kindT ts p ≠ 1) (h2 : kindT ts p ≠ 2) (h3 : kindT ts p ≠ 3) (h4 : kindT ts p ≠ 4) (h5 : kindT ts p ≠ 5) (h6 : kindT ts p ≠ 6) (h8 : kindT ts p ≠ 8) :
    Calls Tryz.prog 31 #[.pointer (some ⟨b, 0, none⟩), .int .i64 (deep : Int)] w (PostV A s v b w (.err 2 (placeT s ts p))) := by
  obtain ⟨k1, k2, k3, k4, k5, k6, k8⟩ := kind_bad h1 h2 h3 h4 h5 h6 h8
  clear h1 h2 h3 h4 h5 h6 h8
  have hbl := hW.lt
  have Pl := Lib.hid (fun w (h : PsW A B base s v ts p b w) => h.place_calls)
  have N := Lib.hid (fun w (h : PsW A B base s v ts p b w) => h.next_calls rfl)
  have hple := hW.hp
  have hpb : (p : Int) ≤ 3518437208882 := by have := hO.len; omega
  replace hW := Lib.hid hW
  replace hO := Lib.hid hO
  obtain ⟨P, hP⟩ : ∃ P, P = placeT s ts p := ⟨_, rfl⟩
  rw [← hP] at Pl ⊢
  replace hP := Lib.hid hP
  go_enter Tryz.func31, Tryz.ntmps31
  (go_wp2_with fail; repeat (any_goals (go_quiet (fail); go_wp2_with fail)))
  refine (Pl.out _ (hW.out.next (by repeat (first | assumption | exact Below.refl _ _ | apply Below.drew | apply below_drewN | apply balloc | (refine Below.setCell ?_ (by first | omega | (simp <;> omega)) _))))).mono ?_
  rintro e w1 ⟨rfl, hb⟩
  have hb1 : Below w.heap.size w w1 := bcall (by repeat (first | assumption | exact Below.refl _ _ | apply Below.drew | apply below_drewN | apply balloc | (refine Below.setCell ?_ (by first | omega | (simp <;> omega)) _))) hb
  clear hb
  (go_wp2_with fail; repeat (any_goals (go_quiet (fail); go_wp2_with fail)))
  refine (N.out _ (hW.out.next (by repeat (first | assumption | exact Below.refl _ _ | apply Below.drew | apply below_drewN | apply balloc | (refine Below.setCell ?_ (by first | omega | (simp <;> omega)) _))))).mono ?_
  rintro e w2 ⟨rfl, hb⟩
  have hb2 : Below w.heap.size w w2 := bcall (by repeat (first | assumption | exact Below.refl _ _ | apply Below.drew | apply below_drewN | apply balloc | (refine Below.setCell ?_ (by first | omega | (simp <;> omega)) _))) hb
  have t2 : WhHeld w1.heap.size P w2 := boxed hb
  clear hb
  have hW2 := hW.out.next hb2
  have y0 := t2.c0
  have x2 := hW2.ps.c2
  have f2 := freeB hW2.ps 2
  have hz1 := hb1.size
  have hz2 := hb2.size
  have hb12 : w1.heap.size ≠ b := by omega
  replace hW2 := Lib.hid hW2
  clear N Pl
  generalize kindT ts p = K at *
  have F := Lib.hid (fun n w => fail_calls A 2 n w)
  have e2 := hW2.out.env.e2
  (go_wp2_with fail; repeat (any_goals (go_quiet (fail); go_wp2_with fail)))
  refine (F.out _ _).mono ?_
  rintro e w3 ⟨⟨g, hg, rfl, hat⟩, hb⟩
  exact ⟨rfl, grown_of_below (bcall hb2 hb), g, Nat.le_trans hz2 hg, rfl, hat⟩
end

end Go.Proofs.YtibopkodoidjoaaGreatDoor

/- Package tree: the parser reads a value that has items or members. -/
namespace Go.Proofs.YtibopkodoidjoaaGreatDoor
open Go Go.RowKit

theorem rowForm {w : World} {base : Nat} {e : TypeId} {size : Nat} {v : Value} {n : Nat} {xs : List Value} (h : w.ownsRow base e size v n xs) : ∃ a cap, v = .slice a n cap := by
  obtain ⟨_, ⟨rfl, h3⟩ | ⟨g, cap, cur, rfl, _⟩⟩ := h
  · exact ⟨none, 0, by rw [h3]⟩
  · exact ⟨_, _, rfl⟩
section
variable {A : Nat → Addr} {B base : Nat} {s : ByteArray} {v : Value} {ts : List Tk}
set_option maxHeartbeats 1000000 in
set_option maxRecDepth 100000 in
theorem value_deep8 (p b : Nat) (w : World) (hW : PsW A B base s v ts p b w) (hO : TsOk s ts) (hk : kindT ts p = 8) :
    Calls Tryz.prog 31 #[.pointer (some ⟨b, 0, none⟩), .int .i64 64] w (PostV A s v b w (.err 3 (placeT s ts p))) := by
  have hbl := hW.lt
  have Pl := Lib.hid (fun w (h : PsW A B base s v ts p b w) => h.place_calls)
  have N := Lib.hid (fun w (h : PsW A B base s v ts p b w) => h.next_calls hk)
  have hple := hW.hp
  have hpb : (p : Int) ≤ 3518437208882 := by have := hO.len; omega
  replace hW := Lib.hid hW
  replace hO := Lib.hid hO
  obtain ⟨P, hP⟩ : ∃ P, P = placeT s ts p := ⟨_, rfl⟩
  rw [← hP] at Pl ⊢
  replace hP := Lib.hid hP
  go_enter Tryz.func31, Tryz.ntmps31
  (go_wp2_with fail; repeat (any_goals (go_quiet (fail); go_wp2_with fail)))
  refine (Pl.out _ (hW.out.next (by repeat (first | assumption | exact Below.refl _ _ | apply Below.drew | apply below_drewN | apply balloc | (refine Below.setCell ?_ (by first | omega | (simp <;> omega)) _))))).mono ?_
  rintro e w1 ⟨rfl, hb⟩
  have hb1 : Below w.heap.size w w1 := bcall (by repeat (first | assumption | exact Below.refl _ _ | apply Below.drew | apply below_drewN | apply balloc | (refine Below.setCell ?_ (by first | omega | (simp <;> omega)) _))) hb
  clear hb
  (go_wp2_with fail; repeat (any_goals (go_quiet (fail); go_wp2_with fail)))
  refine (N.out _ (hW.out.next (by repeat (first | assumption | exact Below.refl _ _ | apply Below.drew | apply below_drewN | apply balloc | (refine Below.setCell ?_ (by first | omega | (simp <;> omega)) _))))).mono ?_
  rintro e w2 ⟨rfl, hb⟩
  have hb2 : Below w.heap.size w w2 := bcall (by repeat (first | assumption | exact Below.refl _ _ | apply Below.drew | apply below_drewN | apply balloc | (refine Below.setCell ?_ (by first | omega | (simp <;> omega)) _))) hb
  have t2 : WhHeld w1.heap.size P w2 := boxed hb
  clear hb
  have hW2 := hW.out.next hb2
  have y0 := t2.c0
  have x2 := hW2.ps.c2
  have f2 := freeB hW2.ps 2
  have hz1 := hb1.size
  have hz2 := hb2.size
  have hb12 : w1.heap.size ≠ b := by omega
  replace hW2 := Lib.hid hW2
  clear N Pl
  have F := Lib.hid (fun n w => fail_calls A 3 n w)
  have e3 := hW2.out.env.e3
  (go_wp2_with fail; repeat (any_goals (go_quiet (fail); go_wp2_with fail)))
  refine (F.out _ _).mono ?_
  rintro e w3 ⟨⟨g, hg, rfl, hat⟩, hb⟩
  exact ⟨rfl, grown_of_below (bcall hb2 hb), g, Nat.le_trans hz2 hg, rfl, hat⟩
set_option maxHeartbeats 1000000 in
set_option maxRecDepth 100000 in
theorem value_deep6 (p b : Nat) (w : World) (hW : PsW A B base s v ts p b w) (hO : TsOk s ts) (hk : kindT ts p = 6) :
    Calls Tryz.prog 31 #[.pointer (some ⟨b, 0, none⟩), .int .i64 64] w (PostV A s v b w (.err 3 (placeT s ts p))) := by
  have hbl := hW.lt
  have Pl := Lib.hid (fun w (h : PsW A B base s v ts p b w) => h.place_calls)
  have N := Lib.hid (fun w (h : PsW A B base s v ts p b w) => h.next_calls hk)
  have hple := hW.hp
  have hpb : (p : Int) ≤ 3518437208882 := by have := hO.len; omega
  replace hW := Lib.hid hW
  replace hO := Lib.hid hO
  obtain ⟨P, hP⟩ : ∃ P, P = placeT s ts p := ⟨_, rfl⟩
  rw [← hP] at Pl ⊢
  replace hP := Lib.hid hP
  go_enter Tryz.func31, Tryz.ntmps31
  (go_wp2_with fail; repeat (any_goals (go_quiet (fail); go_wp2_with fail)))
  refine (Pl.out _ (hW.out.next (by repeat (first | assumption | exact Below.refl _ _ | apply Below.drew | apply below_drewN | apply balloc | (refine Below.setCell ?_ (by first | omega | (simp <;> omega)) _))))).mono ?_
  rintro e w1 ⟨rfl, hb⟩
  have hb1 : Below w.heap.size w w1 := bcall (by repeat (first | assumption | exact Below.refl _ _ | apply Below.drew | apply below_drewN | apply balloc | (refine Below.setCell ?_ (by first | omega | (simp <;> omega)) _))) hb
  clear hb
  (go_wp2_with fail; repeat (any_goals (go_quiet (fail); go_wp2_with fail)))
  refine (N.out _ (hW.out.next (by repeat (first | assumption | exact Below.refl _ _ | apply Below.drew | apply below_drewN | apply balloc | (refine Below.setCell ?_ (by first | omega | (simp <;> omega)) _))))).mono ?_
  rintro e w2 ⟨rfl, hb⟩
  have hb2 : Below w.heap.size w w2 := bcall (by repeat (first | assumption | exact Below.refl _ _ | apply Below.drew | apply below_drewN | apply balloc | (refine Below.setCell ?_ (by first | omega | (simp <;> omega)) _))) hb
  have t2 : WhHeld w1.heap.size P w2 := boxed hb
  clear hb
  have hW2 := hW.out.next hb2
  have y0 := t2.c0
  have x2 := hW2.ps.c2
  have f2 := freeB hW2.ps 2
  have hz1 := hb1.size
  have hz2 := hb2.size
  have hb12 : w1.heap.size ≠ b := by omega
  replace hW2 := Lib.hid hW2
  clear N Pl
  have F := Lib.hid (fun n w => fail_calls A 3 n w)
  have e3 := hW2.out.env.e3
  (go_wp2_with fail; repeat (any_goals (go_quiet (fail); go_wp2_with fail)))
  refine (F.out _ _).mono ?_
  rintro e w3 ⟨⟨g, hg, rfl, hat⟩, hb⟩
  exact ⟨rfl, grown_of_below (bcall hb2 hb), g, Nat.le_trans hz2 hg, rfl, hat⟩
set_option maxHeartbeats 1000000 in
set_option maxRecDepth 100000 in
theorem value_items (f : Nat) (hV : ∀ f', f' < f → VC A B base s v ts f') (deep p b : Nat) (w : World) (hW : PsW A B base s v ts p b w) (hO : TsOk s ts) (hk : kindT ts p = 8) (hd : deep < 64) (r : PR (List Nd)) (hr : r = if kindT ts (p + 1) = 9 then .ok [] (p + 2) else pI s ts f deep (p + 1)) (hout : r ≠ .out) :
    Calls Tryz.prog 31 #[.pointer (some ⟨b, 0, none⟩), .int .i64 (deep : Int)] w (PostV A s v b w (match (generalizing := false) r with | .ok xs q => .ok (.lst (placeT s ts p) xs) q | .err k pl => .err k pl | .out => .out)) := by
  have C := Lib.hid (fun w (h : PsW A B base s v ts p b w) => items_calls f hV deep p b w h hk hd hO.len r hr hout)
  have hbl := hW.lt
  have Pl := Lib.hid (fun w (h : PsW A B base s v ts p b w) => h.place_calls)
  have N := Lib.hid (fun w (h : PsW A B base s v ts p b w) => h.next_calls hk)
  have hple := hW.hp
  have hpb : (p : Int) ≤ 3518437208882 := by have := hO.len; omega
  replace hW := Lib.hid hW
  replace hO := Lib.hid hO
  obtain ⟨P, hP⟩ : ∃ P, P = placeT s ts p := ⟨_, rfl⟩
  rw [← hP] at Pl ⊢
  replace hP := Lib.hid hP
  go_enter Tryz.func31, Tryz.ntmps31
  (go_wp2_with fail; repeat (any_goals (go_quiet (fail); go_wp2_with fail)))
  refine (Pl.out _ (hW.out.next (by repeat (first | assumption | exact Below.refl _ _ | apply Below.drew | apply below_drewN | apply balloc | (refine Below.setCell ?_ (by first | omega | (simp <;> omega)) _))))).mono ?_
  rintro e w1 ⟨rfl, hb⟩
  have hb1 : Below w.heap.size w w1 := bcall (by repeat (first | assumption | exact Below.refl _ _ | apply Below.drew | apply below_drewN | apply balloc | (refine Below.setCell ?_ (by first | omega | (simp <;> omega)) _))) hb
  clear hb
  (go_wp2_with fail; repeat (any_goals (go_quiet (fail); go_wp2_with fail)))
  refine (N.out _ (hW.out.next (by repeat (first | assumption | exact Below.refl _ _ | apply Below.drew | apply below_drewN | apply balloc | (refine Below.setCell ?_ (by first | omega | (simp <;> omega)) _))))).mono ?_
  rintro e w2 ⟨rfl, hb⟩
  have hb2 : Below w.heap.size w w2 := bcall (by repeat (first | assumption | exact Below.refl _ _ | apply Below.drew | apply below_drewN | apply balloc | (refine Below.setCell ?_ (by first | omega | (simp <;> omega)) _))) hb
  have t2 : WhHeld w1.heap.size P w2 := boxed hb
  clear hb
  have hW2 := hW.out.next hb2
  have y0 := t2.c0
  have x2 := hW2.ps.c2
  have f2 := freeB hW2.ps 2
  have hz1 := hb1.size
  have hz2 := hb2.size
  have hb12 : w1.heap.size ≠ b := by omega
  replace hW2 := Lib.hid hW2
  clear N Pl
  have hdd : ((deep : Int) == 64) = false := by simp; omega
  have hdd' : ¬ (deep : Int) = 64 := by omega
  clear y0 x2 f2
  replace hr := Lib.hid hr
  cases r with
  | out => exact absurd rfl hout
  | err k pl =>
    dsimp only
    go_wp2_with fail
    refine wp_region_any (by kernel_rfl) ?_
    try (change wpAny _ _ _ _ _ _ _ (World.drew _))
    (refine wpAny_take (i := 1) (v := ?_) rfl (by kernel_rfl) (by kernel_rfl) (by kernel_rfl) (fun _ _ _ h => h) (Or.inl ⟨by rfl, ?_⟩) ?_; rotate_left; (intro w; go_simp; try with_reducible rfl))
    (refine wpAny_take (i := 2) (v := ?_) rfl (by kernel_rfl) (by kernel_rfl) (by kernel_rfl) (fun _ _ _ h => h) (Or.inl ⟨by rfl, ?_⟩) ?_; rotate_left; (intro w; go_simp; try with_reducible rfl))
    have y0 := t2.drew.c0
    (refine wpAny_ready (rs := [0, 3]) (by kernel_rfl) (by simp) ?_)
    refine AllReady.cons rfl (fun K hK => ?_) (AllReady.cons rfl (fun K hK => ?_) AllReady.nil)
    all_goals go_simp
    · refine hK _ _ ?_
      clear hK K
      (refine wpAny_ready (rs := [3]) (by kernel_rfl) (by simp) ?_; refine AllReady.cons rfl (fun K hK => ?_) AllReady.nil; go_simp)
      refine (C.out _ (hW2.out.next (by repeat (first | assumption | exact Below.refl _ _ | apply Below.drew | apply below_drewN | apply balloc | (refine Below.setCell ?_ (by first | omega | (simp <;> omega)) _))))).mono ?_
      rintro e w3 ⟨hg3, g, hgg, rfl, hat⟩
      exact ⟨rfl, grown_trans (grown_drew (grown_of_below hb2)) hg3, g, Nat.le_trans hz2 hgg, rfl, hat⟩
    · skip
      refine (C.out _ (hW2.out.next (by repeat (first | assumption | exact Below.refl _ _ | apply Below.drew | apply below_drewN | apply balloc | (refine Below.setCell ?_ (by first | omega | (simp <;> omega)) _))))).mono ?_
      rintro e w3 ⟨hg3, g, hgg, rfl, hat⟩
      exact ⟨rfl, grown_trans (grown_drew (grown_of_below hb2)) hg3, g, Nat.le_trans hz2 hgg, rfl, hat⟩
  | ok xs q =>
    dsimp only
    go_wp2_with fail
    go_region_held3 (fun w' => w'.cell? ⟨w1.heap.size, 0, none⟩ = some (.int .i64 (P : Int)) ∧ WhHeld w1.heap.size P w') (first | exact WhHeld.cells ‹_› | exact WhHeld.cells t2.drew) ((go_at_call 59; refine (C.out _ (hW2.out.next (by repeat (first | assumption | exact Below.refl _ _ | apply Below.drew | apply below_drewN | apply balloc | (refine Below.setCell ?_ (by first | omega | (simp <;> omega)) _))))).mono ?_; rintro e w3 ⟨hg3, u, cs, rfl, hK3, hxs, hps3⟩; obtain ⟨ua, uc, rfl⟩ := rowForm hK3.own; have t3 := WhHeld.grown t2.drew hg3 hb12; replace hg3 := Lib.hid hg3; replace hK3 := Lib.hid hK3; replace hxs := Lib.hid hxs; replace hps3 := Lib.hid hps3))
    (go_wp2_with fail; repeat (any_goals (go_quiet (fail); go_wp2_with fail)))
    go_ret
    rw [← hxs.out]
    exact ⟨grown_trans (grown_drew (grown_of_below hb2)) hg3.out, _, rfl, hK3.out.lst.wide hz2 (Nat.le_refl _), hps3.out⟩
set_option maxHeartbeats 1000000 in
set_option maxRecDepth 100000 in
theorem value_members (f : Nat) (hV : ∀ f', f' < f → VC A B base s v ts f') (deep p b : Nat) (w : World) (hW : PsW A B base s v ts p b w) (hO : TsOk s ts) (hk : kindT ts p = 6) (hd : deep < 64) (r : PR (List (ByteArray × Nat × Nd))) (hr : r = if kindT ts (p + 1) = 7 then .ok [] (p + 2) else pM s ts f deep [] (p + 1)) (hout : r ≠ .out) :
    Calls Tryz.prog 31 #[.pointer (some ⟨b, 0, none⟩), .int .i64 (deep : Int)] w (PostV A s v b w (match (generalizing := false) r with | .ok xs q => .ok (.obj (placeT s ts p) xs) q | .err k pl => .err k pl | .out => .out)) := by
  have C := Lib.hid (fun w (h : PsW A B base s v ts p b w) => members_calls f hV deep p b w h hk hd hO.len hO.txt r hr hout)
  have hbl := hW.lt
  have Pl := Lib.hid (fun w (h : PsW A B base s v ts p b w) => h.place_calls)
  have N := Lib.hid (fun w (h : PsW A B base s v ts p b w) => h.next_calls hk)
  have hple := hW.hp
  have hpb : (p : Int) ≤ 3518437208882 := by have := hO.len; omega
  replace hW := Lib.hid hW
  replace hO := Lib.hid hO
  obtain ⟨P, hP⟩ : ∃ P, P = placeT s ts p := ⟨_, rfl⟩
  rw [← hP] at Pl ⊢
  replace hP := Lib.hid hP
  go_enter Tryz.func31, Tryz.ntmps31
  (go_wp2_with fail; repeat (any_goals (go_quiet (fail); go_wp2_with fail)))
  refine (Pl.out _ (hW.out.next (by repeat (first | assumption | exact Below.refl _ _ | apply Below.drew | apply below_drewN | apply balloc | (refine Below.setCell ?_ (by first | omega | (simp <;> omega)) _))))).mono ?_
  rintro e w1 ⟨rfl, hb⟩
  have hb1 : Below w.heap.size w w1 := bcall (by repeat (first | assumption | exact Below.refl _ _ | apply Below.drew | apply below_drewN | apply balloc | (refine Below.setCell ?_ (by first | omega | (simp <;> omega)) _))) hb
  clear hb
  (go_wp2_with fail; repeat (any_goals (go_quiet (fail); go_wp2_with fail)))
  refine (N.out _ (hW.out.next (by repeat (first | assumption | exact Below.refl _ _ | apply Below.drew | apply below_drewN | apply balloc | (refine Below.setCell ?_ (by first | omega | (simp <;> omega)) _))))).mono ?_
  rintro e w2 ⟨rfl, hb⟩
  have hb2 : Below w.heap.size w w2 := bcall (by repeat (first | assumption | exact Below.refl _ _ | apply Below.drew | apply below_drewN | apply balloc | (refine Below.setCell ?_ (by first | omega | (simp <;> omega)) _))) hb
  have t2 : WhHeld w1.heap.size P w2 := boxed hb
  clear hb
  have hW2 := hW.out.next hb2
  have y0 := t2.c0
  have x2 := hW2.ps.c2
  have f2 := freeB hW2.ps 2
  have hz1 := hb1.size
  have hz2 := hb2.size
  have hb12 : w1.heap.size ≠ b := by omega
  replace hW2 := Lib.hid hW2
  clear N Pl
  have hdd : ((deep : Int) == 64) = false := by simp; omega
  have hdd' : ¬ (deep : Int) = 64 := by omega
  clear y0 x2 f2
  replace hr := Lib.hid hr
  cases r with
  | out => exact absurd rfl hout
  | err k pl =>
    dsimp only
    go_wp2_with fail
    refine wp_region_any (by kernel_rfl) ?_
    try (change wpAny _ _ _ _ _ _ _ (World.drew _))
    (refine wpAny_take (i := 1) (v := ?_) rfl (by kernel_rfl) (by kernel_rfl) (by kernel_rfl) (fun _ _ _ h => h) (Or.inl ⟨by rfl, ?_⟩) ?_; rotate_left; (intro w; go_simp; try with_reducible rfl))
    (refine wpAny_take (i := 2) (v := ?_) rfl (by kernel_rfl) (by kernel_rfl) (by kernel_rfl) (fun _ _ _ h => h) (Or.inl ⟨by rfl, ?_⟩) ?_; rotate_left; (intro w; go_simp; try with_reducible rfl))
    have y0 := t2.drew.c0
    (refine wpAny_ready (rs := [0, 3]) (by kernel_rfl) (by simp) ?_)
    refine AllReady.cons rfl (fun K hK => ?_) (AllReady.cons rfl (fun K hK => ?_) AllReady.nil)
    all_goals go_simp
    · refine hK _ _ ?_
      clear hK K
      (refine wpAny_ready (rs := [3]) (by kernel_rfl) (by simp) ?_; refine AllReady.cons rfl (fun K hK => ?_) AllReady.nil; go_simp)
      refine (C.out _ (hW2.out.next (by repeat (first | assumption | exact Below.refl _ _ | apply Below.drew | apply below_drewN | apply balloc | (refine Below.setCell ?_ (by first | omega | (simp <;> omega)) _))))).mono ?_
      rintro e w3 ⟨hg3, g, hgg, rfl, hat⟩
      exact ⟨rfl, grown_trans (grown_drew (grown_of_below hb2)) hg3, g, Nat.le_trans hz2 hgg, rfl, hat⟩
    · skip
      refine (C.out _ (hW2.out.next (by repeat (first | assumption | exact Below.refl _ _ | apply Below.drew | apply below_drewN | apply balloc | (refine Below.setCell ?_ (by first | omega | (simp <;> omega)) _))))).mono ?_
      rintro e w3 ⟨hg3, g, hgg, rfl, hat⟩
      exact ⟨rfl, grown_trans (grown_drew (grown_of_below hb2)) hg3, g, Nat.le_trans hz2 hgg, rfl, hat⟩
  | ok xs q =>
    dsimp only
    go_wp2_with fail
    go_region_held3 (fun w' => w'.cell? ⟨w1.heap.size, 0, none⟩ = some (.int .i64 (P : Int)) ∧ WhHeld w1.heap.size P w') (first | exact WhHeld.cells ‹_› | exact WhHeld.cells t2.drew) ((go_at_call 60; refine (C.out _ (hW2.out.next (by repeat (first | assumption | exact Below.refl _ _ | apply Below.drew | apply below_drewN | apply balloc | (refine Below.setCell ?_ (by first | omega | (simp <;> omega)) _))))).mono ?_; rintro e w3 ⟨hg3, u, cs, rfl, hK3, hxs, hps3⟩; obtain ⟨ua, uc, rfl⟩ := rowForm hK3.own; have t3 := WhHeld.grown t2.drew hg3 hb12; replace hg3 := Lib.hid hg3; replace hK3 := Lib.hid hK3; replace hxs := Lib.hid hxs; replace hps3 := Lib.hid hps3))
    (go_wp2_with fail; repeat (any_goals (go_quiet (fail); go_wp2_with fail)))
    go_ret
    rw [← hxs.out]
    exact ⟨grown_trans (grown_drew (grown_of_below hb2)) hg3.out, _, rfl, hK3.out.obj.wide hz2 (Nat.le_refl _), hps3.out⟩
theorem value_step (hO : TsOk s ts) (f : Nat) (hV : ∀ f', f' < f → VC A B base s v ts f') : VC A B base s v ts f := by
  intro deep p b w hout hd hW
  cases f with
  | zero => rw [pV] at hout; exact absurd rfl hout
  | succ f =>
    have hV' : ∀ f', f' < f → VC A B base s v ts f' := fun f' h => hV f' (by omega)
    rw [pV] at hout ⊢
    by_cases k1 : kindT ts p = 1
    · rw [if_pos k1] at hout ⊢; exact value_null deep p b w hW hO k1 hd
    rw [if_neg k1] at hout ⊢
    by_cases k2 : kindT ts p = 2
    · rw [if_pos k2] at hout ⊢; exact value_true deep p b w hW hO k2 hd
    rw [if_neg k2] at hout ⊢
    by_cases k3 : kindT ts p = 3
    · rw [if_pos k3] at hout ⊢; exact value_false deep p b w hW hO k3 hd
    rw [if_neg k3] at hout ⊢
    by_cases k4 : kindT ts p = 4
    · rw [if_pos k4] at hout ⊢; exact value_num deep p b w hW hO k4 hd
    rw [if_neg k4] at hout ⊢
    by_cases k5 : kindT ts p = 5
    · rw [if_pos k5] at hout ⊢; exact value_text deep p b w hW hO k5 hd
    rw [if_neg k5] at hout ⊢
    by_cases k8 : kindT ts p = 8
    · rw [if_pos k8] at hout ⊢
      by_cases h64 : deep = 64
      · rw [if_pos h64] at hout ⊢; subst h64; exact value_deep8 p b w hW hO k8
      rw [if_neg h64] at hout ⊢
      refine value_items f hV' deep p b w hW hO k8 (by omega) _ rfl ?_
      intro h
      rw [h] at hout
      exact hout rfl
    rw [if_neg k8] at hout ⊢
    by_cases k6 : kindT ts p = 6
    · rw [if_pos k6] at hout ⊢
      by_cases h64 : deep = 64
      · rw [if_pos h64] at hout ⊢; subst h64; exact value_deep6 p b w hW hO k6
      rw [if_neg h64] at hout ⊢
      refine value_members f hV' deep p b w hW hO k6 (by omega) _ rfl ?_
      intro h
      rw [h] at hout
      exact hout rfl
    rw [if_neg k6] at hout ⊢
    exact value_none deep p b w hW hO hd k1 k2 k3 k4 k5 k6 k8
theorem value_calls (hO : TsOk s ts) (f : Nat) : VC A B base s v ts f := by
  induction f using Nat.strongRecOn with
  | ind f ih => exact value_step hO f ih
end

end Go.Proofs.YtibopkodoidjoaaGreatDoor

/- Package tree: Parse. -/
namespace Go.Proofs.YtibopkodoidjoaaGreatDoor
open Go Go.RowKit

@[go_sem] theorem as_wrong (v : Value) (w : World) : (Instr.typeAssert (.iface 71 v) 20 71 true).run Tryz.prog w = .ok (.tuple #[v, .bool true]) w := by kernel_rfl
set_option maxHeartbeats 1000000 in
/-- The closure that catches: the frame panics. -/
theorem catch_wrong (p q g : Nat) (x y : Value) (older : List PanicEntry) (w : World) (hp : w.heap[p]? = some (.cells #[x] 24 (0, 0))) (hq : w.heap[q]? = some (.cells #[y] 26 (0, 0))) (hpq : p ≠ q) :
    CallsD Tryz.prog 30 #[.pointer (some ⟨p, 0, none⟩), .pointer (some ⟨q, 0, none⟩)] (.panicking ({ v := .iface 71 (.agg #[.pointer (some ⟨g, 0, none⟩)]), recovered := false } :: older)) w fun e u' w' =>
      e = .returned (.tuple #[]) ∧ u' = .panicking ({ v := .iface 71 (.agg #[.pointer (some ⟨g, 0, none⟩)]), recovered := true } :: older) ∧
      w'.heap[p]? = some (.cells #[.nilIface] 24 (0, 0)) ∧ w'.heap[q]? = some (.cells #[.iface 69 (.pointer (some ⟨g, 0, none⟩))] 26 (0, 0)) ∧ w'.heap.size = w.heap.size + 1 ∧
      (∀ n, n ≤ p → n ≤ q → Below n w w') ∧ (∀ k, k < w.heap.size → k ≠ p → k ≠ q → w'.heap[k]? = w.heap[k]?) := by
  have hpl := ltB hp
  have hql := ltB hq
  refine callsD_of_wpS Tryz.func30 rfl fun c₀ cs hu => ?_
  apply wpS_seq
  apply wpS_region
  simp [wpOpsS, go_sem, recoverD, hu, Tryz.ntmps30, Exit.thenS]
  refine wpS_of_wp ?_
  generalize hCS : (_ :: cs : List Frame) = CS
  replace hCS := Lib.hid hCS
  have c1 := cellB hp 0 rfl
  have c2 := cellB hq 0 rfl
  have f1 := freeB hp 0
  have f2 := freeB hq 0
  have hne : p ≠ w.heap.size := by omega
  have hne2 : q ≠ w.heap.size := by omega
  replace hp := Lib.hid hp
  replace hq := Lib.hid hq
  simp only [show Array.replicate 16 undef = #[undef, undef, undef, undef, undef, undef, undef, undef, undef, undef, undef, undef, undef, undef, undef, undef] from rfl, List.setIfInBounds_toArray, List.set_cons_succ, List.set_cons_zero, List.append_toArray, List.cons_append, List.nil_append]
  go_wp2
  go_region
  go_wp2
  have h1 : (w.setCell ⟨p, 0, none⟩ .nilIface).heap[p]? = some (.cells #[.nilIface] 24 (0, 0)) := by rw [Lib.heap_setCell_same (i := 0) hp.out]; rfl
  have h2 : (w.setCell ⟨p, 0, none⟩ .nilIface).heap[q]? = some (.cells #[y] 26 (0, 0)) := by rw [Below.heap_setCell _ _ _ _ (Ne.symm hpq)]; exact hq.out
  obtain ⟨W1, hW1⟩ : ∃ W1, W1 = w.setCell ⟨p, 0, none⟩ .nilIface := ⟨_, rfl⟩
  obtain ⟨W2, hW2⟩ : ∃ W2, W2 = W1.setCell ⟨q, 0, none⟩ (.iface 69 (.pointer (some ⟨g, 0, none⟩))) := ⟨_, rfl⟩
  have hz : W2.heap.size = w.heap.size := by rw [hW2, hW1]; simp
  rw [← hW1] at h1 h2
  have h3 : W2.heap[p]? = some (.cells #[.nilIface] 24 (0, 0)) := by rw [hW2, Below.heap_setCell _ _ _ _ hpq]; exact h1
  have h4 : W2.heap[q]? = some (.cells #[.iface 69 (.pointer (some ⟨g, 0, none⟩))] 26 (0, 0)) := by rw [hW2, Lib.heap_setCell_same (i := 0) h2]; rfl
  have h5 : ∀ n, n ≤ p → n ≤ q → Below n w W2 := fun n a b => by rw [hW2, hW1]; exact ((Below.refl _ _).setCell a _).setCell b _
  have h6 : ∀ k, k < w.heap.size → k ≠ p → k ≠ q → W2.heap[k]? = w.heap[k]? := fun k _ a b => by rw [hW2, Below.heap_setCell _ _ _ _ b, hW1, Below.heap_setCell _ _ _ _ a]
  rw [← hW1, ← hW2]
  refine ⟨rfl, _, hCS.out.symm, .tuple #[], by simp [results, Tryz.results30, go_sem], rfl, rfl, ?_, ?_, ?_, ?_, ?_⟩
  · exact (Below.heap_alloc W2 _ _ (by omega)).trans h3
  · exact (Below.heap_alloc W2 _ _ (by omega)).trans h4
  · show (W2.alloc _).heap.size = _
    simp [hz]
  · intro n a b
    exact below_drewN ((h5 n a b).alloc (by omega) _) 1
  · intro k a b c
    exact (Below.heap_alloc W2 _ _ (by omega)).trans (h6 k a b c)
@[go_sem] theorem as_nowrong (w : World) : (Instr.typeAssert .nilIface 20 71 true).run Tryz.prog w = .ok (.tuple #[.agg #[.pointer none], .bool false]) w := by kernel_rfl
set_option maxHeartbeats 1000000 in
/-- The frame returns: there is nothing to catch. -/
theorem catch_none (p q : Nat) (w : World) :
    CallsD Tryz.prog 30 #[.pointer (some ⟨p, 0, none⟩), .pointer (some ⟨q, 0, none⟩)] .returning w fun e u' w' => e = .returned (.tuple #[]) ∧ u' = .returning ∧ Below w.heap.size w w' := by
  refine callsD_of_wpS Tryz.func30 rfl fun c₀ cs hu => ?_
  apply wpS_seq
  apply wpS_region
  simp [wpOpsS, go_sem, recoverD, hu, Tryz.ntmps30, Exit.thenS]
  refine wpS_of_wp ?_
  generalize hCS : (_ :: cs : List Frame) = CS
  replace hCS := Lib.hid hCS
  simp only [show Array.replicate 16 undef = #[undef, undef, undef, undef, undef, undef, undef, undef, undef, undef, undef, undef, undef, undef, undef, undef] from rfl, List.setIfInBounds_toArray, List.set_cons_succ, List.set_cons_zero, List.append_toArray, List.cons_append, List.nil_append]
  go_wp2
  refine ⟨rfl, .returning, ?_, .tuple #[], by simp [results, Tryz.results30, go_sem], rfl, rfl, (by repeat (first | assumption | exact Below.refl _ _ | apply Below.drew | apply below_drewN | apply balloc | (refine Below.setCell ?_ (by first | omega | (simp <;> omega)) _)))⟩
  rw [← hCS.out]
  congr 1
  cases c₀
  simp_all
theorem set_far (w : World) {b g : Nat} (i : Nat) (v : Value) (h : g ≠ b) : (w.setCell ⟨b, i, none⟩ v).heap[g]? = w.heap[g]? := Below.heap_setCell _ _ _ _ h
theorem heap_drew (w : World) : w.drew.heap = w.heap := rfl
/-- The parse of a text. -/
def parseS (s : ByteArray) : PR Nd := if (someS s).2.1 = 0 then pP s (someS s).1 else .err (someS s).2.1 (someS s).2.2
/-- What Parse answers. -/
def ParseR (A : Nat → Addr) (lo : Nat) (r : PR Nd) (e : Ending) (w' : World) : Prop := match r with
  | .ok x _ => ∃ u, e = .returned (.tuple #[u, .nilIface]) ∧ OwnN w' lo w'.heap.size u x
  | .err k pl => ∃ g, lo ≤ g ∧ e = .returned (.tuple #[.nilIface, .iface 69 (.pointer (some ⟨g, 0, none⟩))]) ∧ AtB (pl : Int) (.iface 237 (.pointer (some (A k)))) g w'
  | .out => False
theorem some_ok {s : ByteArray} (hs : s.size ≤ 3518437208882) (h : (someS s).2.1 = 0) : TsOk s (someS s).1 := by
  obtain ⟨hu, hch, _⟩ := some_chain h
  have hv0 := (utfE_brk s).1 hu
  have hbd := chain_bd _ 0 hv0 (Nat.zero_le _) hch
  have hlen := chain_len _ 0 hv0 (Nat.zero_le _) hch
  refine ⟨by omega, fun T hT => ?_, fun T hT => ?_, hs⟩
  · obtain ⟨h1, h2, h3, h4, h5, h6⟩ := hbd T hT
    have h7 := one_fr (by omega) h4 h6
    have := h7.2.2.2.2.1
    unfold maxLen
    omega
  · obtain ⟨h1, h2, h3, _⟩ := hbd T hT
    exact ⟨by omega, h3⟩
set_option maxHeartbeats 4000000 in
set_option maxRecDepth 100000 in
theorem Parse_err {A : Nat → Addr} {B : Nat} (s : ByteArray) (w : World) (hE : Env A B SVN w) (hs : s.size ≤ 3518437208882) (h0 : (someS s).2.1 ≠ 0) :
    Calls Tryz.prog 9 #[.string s] w fun e w' => ParseR A w.heap.size (.err (someS s).2.1 (someS s).2.2) e w' ∧ Below w.heap.size w w' := by
  have S := Lib.hid (fun w hE => Scan_calls (A := A) (B := B) s w hE (by omega))
  generalize hR : someS s = R at *
  replace hR := Lib.hid hR
  replace hE := Lib.hid hE
  have hmf : ∀ (fn : Fn) (first cap : Array Value) (w : World), (Instr.makeFunc fn first cap).run Tryz.prog w = .ok (.func fn first cap) w := fun _ _ _ _ => rfl
  go_enter_defers Tryz.func9, Tryz.ntmps9
  go_wp2_with fail
  refine (S.out _ ((hE.out.next (by repeat (first | assumption | exact Below.refl _ _ | apply Below.drew | apply below_drewN | apply balloc | (refine Below.setCell ?_ (by first | omega | (simp <;> omega)) _)))).sub (by decide))).mono ?_
  rintro e w1 ⟨hr, hb⟩
  unfold ScanR at hr
  rw [if_neg h0] at hr
  obtain ⟨g, hg, rfl, hat⟩ := hr
  have hb1 : Below w.heap.size w w1 := bcall (by repeat (first | assumption | exact Below.refl _ _ | apply Below.drew | apply below_drewN | apply balloc | (refine Below.setCell ?_ (by first | omega | (simp <;> omega)) _))) hb
  replace h0 := Lib.hid h0
  have hz := hb.size
  simp at hz
  have q1 : w1.heap[w.heap.size]? = some (.cells #[.nilIface] 24 (0, 0)) := by
    rw [hb.block _ (by simp; omega), Below.heap_alloc _ _ _ (by simp)]
    exact heap_alloc_new w _
  have q2 : w1.heap[w.heap.size + 1]? = some (.cells #[.nilIface] 26 (0, 0)) := by
    rw [hb.block _ (by simp)]
    have := heap_alloc_new (w.alloc (.cells #[.nilIface] 24 (0, 0))) (.cells #[.nilIface] 26 (0, 0))
    simpa using this
  have c1 : w1.cell? ⟨w.heap.size, 0, none⟩ = some .nilIface := cellB q1 0 rfl
  have c2 : w1.cell? ⟨w.heap.size + 1, 0, none⟩ = some .nilIface := cellB q2 0 rfl
  have f1 := freeB q1 0
  have f2 := freeB q2 0
  replace hat := Lib.hid hat
  replace q1 := Lib.hid q1
  replace q2 := Lib.hid q2
  clear hb
  go_wp2_with fail
  go_region
  go_wp2_with fail
  refine ⟨.tuple #[.nilIface, .iface 69 (.pointer (some ⟨g, 0, none⟩))], ?_, ⟨g, by simp at hg; omega, rfl, ?_⟩, ?_⟩
  · simp [results, Tryz.results9, go_sem, *]
  · simp at hg
    unfold AtB
    rw [heap_drew, set_far _ _ _ (show g ≠ w.heap.size + 1 by omega), set_far _ _ _ (show g ≠ w.heap.size by omega), set_far _ _ _ (show g ≠ w.heap.size + 1 by omega)]
    exact hat.out
  · exact (by repeat (first | assumption | exact Below.refl _ _ | apply Below.drew | apply below_drewN | apply balloc | (refine Below.setCell ?_ (by first | omega | (simp <;> omega)) _)))
set_option maxHeartbeats 4000000 in
set_option maxRecDepth 100000 in
theorem Parse_ok {A : Nat → Addr} {B : Nat} (s : ByteArray) (w : World) (hE : Env A B SVN w) (hs : s.size ≤ 3518437208882) (h0 : (someS s).2.1 = 0) :
    Calls Tryz.prog 9 #[.string s] w fun e w' => ParseR A w.heap.size (pP s (someS s).1) e w' ∧ Below w.heap.size w w' := by
  have S := Lib.hid (fun w hE => Scan_calls (A := A) (B := B) s w hE (by omega))
  have hO := some_ok hs h0
  have hfit := pV_fits s (someS s).1
  generalize hR : someS s = R at *
  replace hR := Lib.hid hR
  replace hE := Lib.hid hE
  have hBw := hE.out.hB
  have hmf : ∀ (fn : Fn) (first cap : Array Value) (w : World), (Instr.makeFunc fn first cap).run Tryz.prog w = .ok (.func fn first cap) w := fun _ _ _ _ => rfl
  generalize hts : R.1 = ts at *
  obtain ⟨PP, hPP⟩ : ∃ PP, PP = pP s ts := ⟨_, rfl⟩
  rw [← hPP]
  unfold pP at hPP
  generalize hRV : pV s ts (2 * ts.length + 1) 0 0 = RV at *
  replace hRV := Lib.hid hRV
  replace hPP := Lib.hid hPP
  go_enter_defers Tryz.func9, Tryz.ntmps9
  go_wp2_with fail
  refine (S.out _ ((hE.out.next (by repeat (first | assumption | exact Below.refl _ _ | apply Below.drew | apply below_drewN | apply balloc | (refine Below.setCell ?_ (by first | omega | (simp <;> omega)) _)))).sub (by decide))).mono ?_
  rintro e w1 ⟨hr, hb⟩
  unfold ScanR at hr
  rw [if_pos h0, hts] at hr
  replace hts := Lib.hid hts
  obtain ⟨v, rfl, hown⟩ := hr
  have hb1 : Below w.heap.size w w1 := bcall (by repeat (first | assumption | exact Below.refl _ _ | apply Below.drew | apply below_drewN | apply balloc | (refine Below.setCell ?_ (by first | omega | (simp <;> omega)) _))) hb
  replace h0 := Lib.hid h0
  have hz := hb.size
  simp at hz
  have q1 : w1.heap[w.heap.size]? = some (.cells #[.nilIface] 24 (0, 0)) := by
    rw [hb.block _ (by simp; omega), Below.heap_alloc _ _ _ (by simp)]
    exact heap_alloc_new w _
  have q2 : w1.heap[w.heap.size + 1]? = some (.cells #[.nilIface] 26 (0, 0)) := by
    rw [hb.block _ (by simp)]
    have := heap_alloc_new (w.alloc (.cells #[.nilIface] 24 (0, 0))) (.cells #[.nilIface] 26 (0, 0))
    simpa using this
  have hown1 : OwnT w1 (w.heap.size + 1 + 1) v ts := by unfold OwnT; simpa using hown
  obtain ⟨va, vc, rfl⟩ := hown1.form2
  have c1 : w1.cell? ⟨w.heap.size, 0, none⟩ = some .nilIface := cellB q1 0 rfl
  have c2 : w1.cell? ⟨w.heap.size + 1, 0, none⟩ = some .nilIface := cellB q2 0 rfl
  have f1 := freeB q1 0
  have f2 := freeB q2 0
  have hlen := hO.len
  have hl' : (ts.length : Int) ≤ 3518437208882 := by omega
  replace hown1 := Lib.hid hown1
  replace q1 := Lib.hid q1
  replace q2 := Lib.hid q2
  replace hO := Lib.hid hO
  replace hfit := Lib.hid hfit
  clear hb hown
  have hW : ∀ w2, w2 = (w1.setCell ⟨w.heap.size + 1, 0, none⟩ .nilIface).alloc (.cells #[.string s, .slice va ts.length vc, .int .i64 0] 75 (0, 0)) → PsW A B (w.heap.size + 1 + 1) s (.slice va ts.length vc) ts 0 w1.heap.size w2 := by
    rintro w2 rfl
    have hlt := fun k e => (World.ownsRow.lt hown1.out k e)
    refine ⟨hE.out.next (by repeat (first | assumption | exact Below.refl _ _ | apply Below.drew | apply below_drewN | apply balloc | (refine Below.setCell ?_ (by first | omega | (simp <;> omega)) _))), ?_, ?_, ?_, by omega, Nat.zero_le _⟩
    · have := heap_alloc_new (w1.setCell ⟨w.heap.size + 1, 0, none⟩ .nilIface) (.cells #[.string s, .slice va ts.length vc, .int .i64 0] 75 (0, 0))
      unfold PsB
      simpa using this
    · exact OwnT.next (OwnT.grown hown1.out (grown_set _ _ _ _) (fun h => by have := (hlt _ h).1; omega)) ((Below.refl _ _).alloc (Nat.le_refl _) _)
    · intro h
      have := (hlt _ h).2
      omega
  have V : Hid (∀ w2, PsW A B (w.heap.size + 1 + 1) s (.slice va ts.length vc) ts 0 w1.heap.size w2 → Calls Tryz.prog 31 #[.pointer (some ⟨w1.heap.size, 0, none⟩), .int .i64 0] w2 (PostV A s (.slice va ts.length vc) w1.heap.size w2 RV)) := Lib.hid (fun w2 h => by
    have := value_calls hO.out (2 * ts.length + 1) 0 0 w1.heap.size w2 (by rw [hRV.out]; intro h; have := hfit.out; rw [h] at this; exact this) (by decide) h
    rw [hRV.out] at this
    exact this)
  have hQ : ∀ w2, w2 = (w1.setCell ⟨w.heap.size + 1, 0, none⟩ .nilIface).alloc (.cells #[.string s, .slice va ts.length vc, .int .i64 0] 75 (0, 0)) → ∀ w3, w2.grownBy w3 (some w1.heap.size) →
      w3.heap[w.heap.size]? = some (.cells #[.nilIface] 24 (0, 0)) ∧ w3.heap[w.heap.size + 1]? = some (.cells #[.nilIface] 26 (0, 0)) ∧ Below w.heap.size w w3 ∧ w1.heap.size < w3.heap.size := by
    rintro w2 rfl w3 hg
    have hz2 := hg.size
    simp at hz2
    refine ⟨?_, ?_, ?_, by omega⟩
    · rw [hg.block _ (by simp; omega) (fun e => by have := Option.some.inj e; omega), Below.heap_alloc _ _ _ (by simp; omega), set_far _ _ _ (by omega)]
      exact q1.out
    · rw [hg.block _ (by simp; omega) (fun e => by have := Option.some.inj e; omega), Below.heap_alloc _ _ _ (by simp; omega), Lib.heap_setCell_same (i := 0) q2.out]
      rfl
    · exact Below.trans (show Below w.heap.size w _ from (by repeat (first | assumption | exact Below.refl _ _ | apply Below.drew | apply below_drewN | apply balloc | (refine Below.setCell ?_ (by first | omega | (simp <;> omega)) _)))) (grown_below hg (by simp; omega) (by omega))
  cases RV with
  | out => exact hfit.out.elim
  | err k pl =>
    go_wp2_with fail
    refine (V.out _ (hW _ rfl)).mono ?_
    rintro e w3 ⟨hg3, g, hgg, rfl, hat⟩
    obtain ⟨r1, r2, hb3, hz3⟩ := hQ _ rfl w3 hg3
    refine leaves_cons (f := 30) (args := #[.pointer (some ⟨w.heap.size, 0, none⟩), .pointer (some ⟨w.heap.size + 1, 0, none⟩)]) (by simp) (by simp [go_sem]) ?_
    refine (catch_wrong w.heap.size (w.heap.size + 1) g _ _ [] w3 r1 r2 (by omega)).mono ?_
    rintro e u' w4 ⟨rfl, rfl, p1, p2, hz4, hb4, hk4⟩
    have y1 := cellB p1 0 rfl
    have y2 := cellB p2 0 rfl
    have hgl := ltB hat
    simp at hgg
    have hPP' := hPP.out
    refine ⟨.tuple #[.nilIface, .iface 69 (.pointer (some ⟨g, 0, none⟩))], ?_, ?_, ?_⟩
    · simp [results, Tryz.results9, go_sem, y1, y2]
    · rw [hPP']
      exact ⟨g, by omega, rfl, (hk4 g hgl (by omega) (by omega)).trans hat⟩
    · exact hb3.trans (hb4 _ (Nat.le_refl _) (by omega))
  | ok x q =>
    go_wp2_with fail
    refine (V.out _ (hW _ rfl)).mono ?_
    rintro e w3 ⟨hg3, u, rfl, hN, hps3⟩
    obtain ⟨r1, r2, hb3, hz3⟩ := hQ _ rfl w3 hg3
    obtain ⟨ut, ua, rfl⟩ := hN.form
    have hfq : 0 < q ∧ q ≤ ts.length := hfit.out
    have hP3 := (hW _ rfl).step hg3 hps3 hfq.2
    have hP4 : Hid (PsW A B (w.heap.size + 1 + 1) s (.slice va ts.length vc) ts q w1.heap.size (w3.setCell ⟨w.heap.size, 0, none⟩ (.iface ut ua))) := Lib.hid (by
      have hlt := fun k e => (World.ownsRow.lt hP3.own k e)
      refine ⟨hP3.env.below ((Below.refl _ _).setCell hBw _), hP3.ps.setOther (by omega) _ _, hP3.own.grown (grown_set _ _ _ _) (fun h => by have := (hlt _ h).1; omega), hP3.nb, hP3.hB, hP3.hp⟩)
    have hN4 : Hid (OwnN (w3.setCell ⟨w.heap.size, 0, none⟩ (.iface ut ua)) (w1.heap.size + 1) w3.heap.size (.iface ut ua) x) := Lib.hid (by
      have h1 : OwnN w3 (w1.heap.size + 1) w3.heap.size (.iface ut ua) x := by simpa using hN
      exact h1.keep (fun k a b => set_far _ _ _ (by omega)))
    have s1 : Hid ((w3.setCell ⟨w.heap.size, 0, none⟩ (.iface ut ua)).heap[w.heap.size]? = some (.cells #[.iface ut ua] 24 (0, 0))) := Lib.hid (by rw [Lib.heap_setCell_same (i := 0) r1]; rfl)
    have s2 : Hid ((w3.setCell ⟨w.heap.size, 0, none⟩ (.iface ut ua)).heap[w.heap.size + 1]? = some (.cells #[.nilIface] 26 (0, 0))) := Lib.hid (by rw [set_far _ _ _ (by omega)]; exact r2)
    have hzl : w.heap.size ≤ (w3.setCell ⟨w.heap.size, 0, none⟩ (.iface ut ua)).heap.size := by simp; omega
    have x2 := hps3.c2
    have c3 := cellB r1 0 rfl
    have c4 := cellB r2 0 rfl
    have f3 := freeB r1 0
    have f4 := freeB r2 0
    have hqi : (q : Int) ≤ (ts.length : Int) := by omega
    have hne : w1.heap.size ≠ w.heap.size := by omega
    have e4 := hP4.out.env.e2
    have l4 := hP4.out.env.l2
    clear c1 c2 f1 f2 hW hQ V hps3 hP3 hN r1 r2
    by_cases hq : q < ts.length
    · have hq' : (q : Int) < (ts.length : Int) := by omega
      have Pl := Lib.hid (fun w (h : PsW A B (w.heap.size + 1 + 1) s (.slice va ts.length vc) ts q w1.heap.size w) => h.place_calls)
      have Pl : Hid (∀ w', PsW A B (w.heap.size + 1 + 1) s (.slice va ts.length vc) ts q w1.heap.size w' → Calls Tryz.prog 33 #[.pointer (some ⟨w1.heap.size, 0, none⟩)] w' fun e w'' => e = .returned (.int .i64 (placeT s ts q : Int)) ∧ Below w'.heap.size w' w'') := Lib.hid (fun w' h => h.place_calls)
      have F := Lib.hid (fun n w => fail_calls A 2 n w)
      have hPP : Hid (PP = .err 2 (placeT s ts q)) := Lib.hid (by have := hPP.out; rw [this]; exact if_pos hq)
      generalize placeT s ts q = P at *
      go_wp2_with fail
      refine wp_region_any (by kernel_rfl) ?_
      try (change wpAny _ _ _ _ _ _ _ (World.drew _))
      (refine wpAny_ready (rs := [0, 2]) (by kernel_rfl) (by simp) ?_)
      refine AllReady.cons rfl (fun K hK => ?_) (AllReady.cons rfl (fun K hK => ?_) AllReady.nil)
      all_goals go_simp
      · refine hK _ _ ?_
        clear hK K
        (refine wpAny_ready (rs := [1, 2]) (by kernel_rfl) (by simp) ?_)
        refine AllReady.cons rfl (fun K hK => ?_) (AllReady.cons rfl (fun K hK => ?_) AllReady.nil)
        all_goals go_simp
        · skip
          refine (Pl.out _ (hP4.out.next (show Below (w3.setCell ⟨w.heap.size, 0, none⟩ (.iface ut ua)).heap.size _ (World.drew _) from (by repeat (first | assumption | exact Below.refl _ _ | apply Below.drew | apply below_drewN | apply balloc | (refine Below.setCell ?_ (by first | omega | (simp <;> omega)) _)))))).mono ?_
          rintro e w5 ⟨rfl, hb5⟩
          have hb5' := bcall (show Below (w3.setCell ⟨w.heap.size, 0, none⟩ (.iface ut ua)).heap.size (w3.setCell ⟨w.heap.size, 0, none⟩ (.iface ut ua)) _ from (by repeat (first | assumption | exact Below.refl _ _ | apply Below.drew | apply below_drewN | apply balloc | (refine Below.setCell ?_ (by first | omega | (simp <;> omega)) _)))) hb5
          have x5 := (hP4.out.next hb5').env.e2
          have hz5 := hb5'.size
          refine hK _ _ ?_
          clear hK K
          (refine wpAny_ready (rs := [2]) (by kernel_rfl) (by simp) ?_; refine AllReady.cons rfl (fun K hK => ?_) AllReady.nil; go_simp)
          refine hK _ _ ?_
          clear hK K
          (refine wpAny_ready (rs := [3]) (by kernel_rfl) (by simp) ?_; refine AllReady.cons rfl (fun K hK => ?_) AllReady.nil; go_simp)
          refine (F.out _ _).mono ?_
          rintro e w6 ⟨⟨g, hgg, rfl, hat⟩, hb6⟩
          have hb6' := bcall hb5' hb6
          have r1 := box_next s1.out hb6'
          have r2 := box_next s2.out hb6'
          have hb3 := hb3.trans (show Below w.heap.size w3 w6 from Below.trans (show Below w.heap.size w3 (w3.setCell ⟨w.heap.size, 0, none⟩ (.iface ut ua)) from (by repeat (first | assumption | exact Below.refl _ _ | apply Below.drew | apply below_drewN | apply balloc | (refine Below.setCell ?_ (by first | omega | (simp <;> omega)) _)))) (hb6'.mono hzl))
          have hgg : w.heap.size + 2 ≤ g := by simp at hz5; omega
          refine leaves_cons (f := 30) (args := #[.pointer (some ⟨w.heap.size, 0, none⟩), .pointer (some ⟨w.heap.size + 1, 0, none⟩)]) (by simp) (by simp [go_sem]) ?_
          refine (catch_wrong w.heap.size (w.heap.size + 1) g _ _ [] _ r1 r2 (by omega)).mono ?_
          rintro e u' w9 ⟨rfl, rfl, p1, p2, hz9, hb9, hk9⟩
          have y1 := cellB p1 0 rfl
          have y2 := cellB p2 0 rfl
          have hgl := ltB hat
          have hPP' := hPP.out
          refine ⟨.tuple #[.nilIface, .iface 69 (.pointer (some ⟨g, 0, none⟩))], ?_, ?_, ?_⟩
          · simp [results, Tryz.results9, go_sem, y1, y2]
          · rw [hPP']
            exact ⟨g, by omega, rfl, (hk9 g hgl (by omega) (by omega)).trans hat⟩
          · exact hb3.trans (hb9 _ (Nat.le_refl _) (by omega))
        · refine hK _ _ ?_
          clear hK K
          (refine wpAny_ready (rs := [1]) (by kernel_rfl) (by simp) ?_; refine AllReady.cons rfl (fun K hK => ?_) AllReady.nil; go_simp)
          refine (Pl.out _ (hP4.out.next (show Below (w3.setCell ⟨w.heap.size, 0, none⟩ (.iface ut ua)).heap.size _ (World.drew _) from (by repeat (first | assumption | exact Below.refl _ _ | apply Below.drew | apply below_drewN | apply balloc | (refine Below.setCell ?_ (by first | omega | (simp <;> omega)) _)))))).mono ?_
          rintro e w5 ⟨rfl, hb5⟩
          have hb5' := bcall (show Below (w3.setCell ⟨w.heap.size, 0, none⟩ (.iface ut ua)).heap.size (w3.setCell ⟨w.heap.size, 0, none⟩ (.iface ut ua)) _ from (by repeat (first | assumption | exact Below.refl _ _ | apply Below.drew | apply below_drewN | apply balloc | (refine Below.setCell ?_ (by first | omega | (simp <;> omega)) _)))) hb5
          have x5 := (hP4.out.next hb5').env.e2
          have hz5 := hb5'.size
          refine hK _ _ ?_
          clear hK K
          (refine wpAny_ready (rs := [3]) (by kernel_rfl) (by simp) ?_; refine AllReady.cons rfl (fun K hK => ?_) AllReady.nil; go_simp)
          refine (F.out _ _).mono ?_
          rintro e w6 ⟨⟨g, hgg, rfl, hat⟩, hb6⟩
          have hb6' := bcall hb5' hb6
          have r1 := box_next s1.out hb6'
          have r2 := box_next s2.out hb6'
          have hb3 := hb3.trans (show Below w.heap.size w3 w6 from Below.trans (show Below w.heap.size w3 (w3.setCell ⟨w.heap.size, 0, none⟩ (.iface ut ua)) from (by repeat (first | assumption | exact Below.refl _ _ | apply Below.drew | apply below_drewN | apply balloc | (refine Below.setCell ?_ (by first | omega | (simp <;> omega)) _)))) (hb6'.mono hzl))
          have hgg : w.heap.size + 2 ≤ g := by simp at hz5; omega
          refine leaves_cons (f := 30) (args := #[.pointer (some ⟨w.heap.size, 0, none⟩), .pointer (some ⟨w.heap.size + 1, 0, none⟩)]) (by simp) (by simp [go_sem]) ?_
          refine (catch_wrong w.heap.size (w.heap.size + 1) g _ _ [] _ r1 r2 (by omega)).mono ?_
          rintro e u' w9 ⟨rfl, rfl, p1, p2, hz9, hb9, hk9⟩
          have y1 := cellB p1 0 rfl
          have y2 := cellB p2 0 rfl
          have hgl := ltB hat
          have hPP' := hPP.out
          refine ⟨.tuple #[.nilIface, .iface 69 (.pointer (some ⟨g, 0, none⟩))], ?_, ?_, ?_⟩
          · simp [results, Tryz.results9, go_sem, y1, y2]
          · rw [hPP']
            exact ⟨g, by omega, rfl, (hk9 g hgl (by omega) (by omega)).trans hat⟩
          · exact hb3.trans (hb9 _ (Nat.le_refl _) (by omega))
      · refine hK _ _ ?_
        clear hK K
        (refine wpAny_ready (rs := [0]) (by kernel_rfl) (by simp) ?_; refine AllReady.cons rfl (fun K hK => ?_) AllReady.nil; go_simp)
        refine hK _ _ ?_
        clear hK K
        (refine wpAny_ready (rs := [1]) (by kernel_rfl) (by simp) ?_; refine AllReady.cons rfl (fun K hK => ?_) AllReady.nil; go_simp)
        refine (Pl.out _ (hP4.out.next (show Below (w3.setCell ⟨w.heap.size, 0, none⟩ (.iface ut ua)).heap.size _ (World.drew _) from (by repeat (first | assumption | exact Below.refl _ _ | apply Below.drew | apply below_drewN | apply balloc | (refine Below.setCell ?_ (by first | omega | (simp <;> omega)) _)))))).mono ?_
        rintro e w5 ⟨rfl, hb5⟩
        have hb5' := bcall (show Below (w3.setCell ⟨w.heap.size, 0, none⟩ (.iface ut ua)).heap.size (w3.setCell ⟨w.heap.size, 0, none⟩ (.iface ut ua)) _ from (by repeat (first | assumption | exact Below.refl _ _ | apply Below.drew | apply below_drewN | apply balloc | (refine Below.setCell ?_ (by first | omega | (simp <;> omega)) _)))) hb5
        have x5 := (hP4.out.next hb5').env.e2
        have hz5 := hb5'.size
        refine hK _ _ ?_
        clear hK K
        (refine wpAny_ready (rs := [3]) (by kernel_rfl) (by simp) ?_; refine AllReady.cons rfl (fun K hK => ?_) AllReady.nil; go_simp)
        refine (F.out _ _).mono ?_
        rintro e w6 ⟨⟨g, hgg, rfl, hat⟩, hb6⟩
        have hb6' := bcall hb5' hb6
        have r1 := box_next s1.out hb6'
        have r2 := box_next s2.out hb6'
        have hb3 := hb3.trans (show Below w.heap.size w3 w6 from Below.trans (show Below w.heap.size w3 (w3.setCell ⟨w.heap.size, 0, none⟩ (.iface ut ua)) from (by repeat (first | assumption | exact Below.refl _ _ | apply Below.drew | apply below_drewN | apply balloc | (refine Below.setCell ?_ (by first | omega | (simp <;> omega)) _)))) (hb6'.mono hzl))
        have hgg : w.heap.size + 2 ≤ g := by simp at hz5; omega
        refine leaves_cons (f := 30) (args := #[.pointer (some ⟨w.heap.size, 0, none⟩), .pointer (some ⟨w.heap.size + 1, 0, none⟩)]) (by simp) (by simp [go_sem]) ?_
        refine (catch_wrong w.heap.size (w.heap.size + 1) g _ _ [] _ r1 r2 (by omega)).mono ?_
        rintro e u' w9 ⟨rfl, rfl, p1, p2, hz9, hb9, hk9⟩
        have y1 := cellB p1 0 rfl
        have y2 := cellB p2 0 rfl
        have hgl := ltB hat
        have hPP' := hPP.out
        refine ⟨.tuple #[.nilIface, .iface 69 (.pointer (some ⟨g, 0, none⟩))], ?_, ?_, ?_⟩
        · simp [results, Tryz.results9, go_sem, y1, y2]
        · rw [hPP']
          exact ⟨g, by omega, rfl, (hk9 g hgl (by omega) (by omega)).trans hat⟩
        · exact hb3.trans (hb9 _ (Nat.le_refl _) (by omega))
    · have hq' : ¬ (q : Int) < (ts.length : Int) := by omega
      go_wp2_with fail
      refine leaves_cons (f := 30) (args := #[.pointer (some ⟨w.heap.size, 0, none⟩), .pointer (some ⟨w.heap.size + 1, 0, none⟩)]) (by simp) (by simp [go_sem]) ?_
      refine (catch_none w.heap.size (w.heap.size + 1) _).mono ?_
      rintro e u' w9 ⟨rfl, rfl, hb9⟩
      have hz9 := hb9.size
      have p1 : w9.heap[w.heap.size]? = some (.cells #[.iface ut ua] 24 (0, 0)) := by
        rw [hb9.block _ (by simp; omega), set_far _ _ _ (by omega), Lib.heap_setCell_same (i := 0) s1.out]; rfl
      have p2 : w9.heap[w.heap.size + 1]? = some (.cells #[.nilIface] 26 (0, 0)) := by
        rw [hb9.block _ (by simp; omega), Lib.heap_setCell_same (i := 0) (show (_ : Option Obj) = some (.cells #[.nilIface] 26 (0, 0)) by rw [set_far _ _ _ (by omega)]; exact s2.out)]; rfl
      have y1 := cellB p1 0 rfl
      have y2 := cellB p2 0 rfl
      have hPP' := hPP.out
      rw [if_neg hq] at hPP'
      refine ⟨.tuple #[.iface ut ua, .nilIface], ?_, ?_, ?_⟩
      · simp [results, Tryz.results9, go_sem, y1, y2]
      · rw [hPP']
        refine ⟨_, rfl, (hN4.out.keep fun k a b => ?_).wide (by omega) ?_⟩
        · rw [hb9.block _ (by simp; omega), set_far _ _ _ (by omega), set_far _ _ _ (by omega)]
        · simp at hz9; omega
      · refine Below.trans ?_ (hb9.mono (by simp; omega))
        exact Below.trans hb3 (show Below w.heap.size w3 _ from (by repeat (first | assumption | exact Below.refl _ _ | apply Below.drew | apply below_drewN | apply balloc | (refine Below.setCell ?_ (by first | omega | (simp <;> omega)) _))))
theorem Parse_calls {A : Nat → Addr} {B : Nat} (s : ByteArray) (w : World) (hE : Env A B SVN w) (hs : s.size ≤ 3518437208882) :
    Calls Tryz.prog 9 #[.string s] w fun e w' => ParseR A w.heap.size (parseS s) e w' ∧ Below w.heap.size w w' := by
  unfold parseS
  by_cases h0 : (someS s).2.1 = 0
  · rw [if_pos h0]; exact Parse_ok s w hE hs h0
  · rw [if_neg h0]; exact Parse_err s w hE hs h0

end Go.Proofs.YtibopkodoidjoaaGreatDoor

/- Plain laws: each token by itself; tokens laid out anew with blanks between. No program in sight. -/
namespace Go.Proofs.YtibopkodoidjoaaGreatDoor
open Go Go.RowKit

theorem bAt_ext (s : ByteArray) {a b j : Nat} (hb : b ≤ s.size) (hj : j < b - a) : bAt (s.extract a b) j = bAt s (a + j) := by
  have e : (s.extract a b).size = b - a := by rw [ByteArray.size_extract]; omega
  unfold bAt
  rw [dif_pos (by omega), dif_pos (by omega), ByteArray.getElem_extract]
theorem stop0 : stopB 0 := ⟨by decide, by decide, by decide, by decide⟩
theorem stop_blank {c : Nat} (h : blankN c = true) : stopB c := by
  have hc : c = 32 ∨ c = 9 ∨ c = 10 ∨ c = 13 := by
    simp only [blankN, Bool.or_eq_true, beq_iff_eq] at h; omega
  rcases hc with e | e | e | e <;> (subst e; exact ⟨by decide, by decide, by decide, by decide⟩)
/-- The bytes of a token. -/
def segL (s : ByteArray) (T : Tk) : List UInt8 := (s.extract T.fr T.to).data.toList
theorem segL_len {s : ByteArray} {T : Tk} (h : T.to ≤ s.size) : (segL s T).length = T.to - T.fr := by
  unfold segL
  rw [Array.length_toList]
  show (s.extract T.fr T.to).size = _
  rw [ByteArray.size_extract]; omega
theorem segL_nth {s : ByteArray} {T : Tk} (h : T.to ≤ s.size) {j : Nat} (hj : j < T.to - T.fr) : nthN (segL s T) j = bAt s (T.fr + j) := by
  have : nthN (segL s T) j = bAt (s.extract T.fr T.to) j := (bAt_nth _ _).symm
  rw [this, bAt_ext s h hj]
theorem bs_get (s : ByteArray) (i k j : Nat) (h : j < (bs s i k).length) : (bs s i k)[j] = bAt s (i + j) := by
  revert h; unfold bs; intro h; simp
theorem segL_vl {s : ByteArray} {T : Tk} (h1 : T.fr ≤ T.to) (h : T.to ≤ s.size) (hb1 : brkAt s T.fr = s.size) (hb2 : brkAt s T.to = s.size) : VL ((segL s T).map UInt8.toNat) := by
  have e : (segL s T).map UInt8.toNat = bs s T.fr T.to := by
    apply List.ext_getElem
    · rw [List.length_map, segL_len h, bs_len]
    · intro j h2 h3
      rw [bs_len] at h3
      have := segL_nth h h3
      unfold nthN at this
      rw [List.getElem?_eq_getElem (by rw [segL_len h]; exact h3)] at this
      simp only [Option.map_some, Option.getD_some] at this
      rw [List.getElem_map, this, bs_get]
  rw [e]
  exact seg_vl s T.to h hb2 _ T.fr (Nat.le_refl _) h1 hb1
/-- Each token, by itself, is that one token. -/
theorem tok_alone {s : ByteArray} (h0 : (someS s).2.1 = 0) {T : Tk} (hT : T ∈ (someS s).1) : someS (s.extract T.fr T.to) = ([⟨T.kind, 0, T.to - T.fr, T.text⟩], 0, 0) := by
  obtain ⟨hu, hch, _⟩ := some_chain h0
  obtain ⟨_, h2, h3, h4, h5, h6⟩ := chain_bd _ 0 ((utfE_brk _).1 hu) (Nat.zero_le _) hch T hT
  generalize ht : s.extract T.fr T.to = t
  have hz : t.size = T.to - T.fr := by rw [← ht, ByteArray.size_extract]; omega
  have hl : t = ⟨(segL s T).toArray⟩ := by rw [← ht]; rfl
  have hut : utfE t = 0 := by rw [hl, utfE_mk]; exact segL_vl (by omega) h3 h4 h5
  have ho : oneAt t 0 = (0, 0, ⟨T.kind, 0, 0 + (T.to - T.fr), T.text⟩) := by
    refine one_loc (s := s) (i := T.fr) (by omega) h6 (by omega) (fun j hj => ?_) (fun _ => Or.inr ?_)
    · rw [Nat.zero_add, ← ht, bAt_ext s h3 hj]
    · rw [bAt_ge t _ (by omega)]; exact stop0
  rw [Nat.zero_add] at ho
  rw [someS_eq, if_pos hut]
  refine (scan_chain _ 0 (Nat.zero_le _) ((utfE_brk _).1 hut)).2 ⟨Nat.le_refl _, by show 0 < t.size; omega, fun j h1 h2 => ?_, ho, by show T.to - T.fr ≤ t.size; omega, fun j h1 h2 => ?_⟩
  · simp only at h2; omega
  · simp only at h1; omega

/-! ### Laid out anew -/
def layL (s : ByteArray) (Z : List UInt8) : List (List UInt8 × Tk) → List UInt8
  | [] => Z
  | (b, T) :: r => b ++ (segL s T ++ layL s Z r)
def wantL : Nat → List (List UInt8 × Tk) → List Tk
  | _, [] => []
  | p, (b, T) :: r => ⟨T.kind, p + b.length, p + b.length + (T.to - T.fr), T.text⟩ :: wantL (p + b.length + (T.to - T.fr)) r
def blanksL (b : List UInt8) : Prop := ∀ c ∈ b, blankN c.toNat = true
/-- What stands apart stays apart, and what stands side by side did so. -/
def glueOk : List (List UInt8 × Tk) → Prop
  | [] => True
  | (_, _) :: [] => True
  | (_, T) :: (b', T') :: r => (b' = [] → T.to = T'.fr) ∧ glueOk ((b', T') :: r)
theorem nth_blank {b : List UInt8} (h : blanksL b) {j : Nat} (hj : j < b.length) : blankN (nthN b j) = true := by
  unfold nthN
  rw [List.getElem?_eq_getElem hj]
  exact h _ (List.getElem_mem hj)
theorem lay_chain {s : ByteArray} {Z : List UInt8} (hZ : blanksL Z) : ∀ (it : List (List UInt8 × Tk)) (A : List UInt8),
    (∀ x ∈ it, blanksL x.1 ∧ x.2.fr < x.2.to ∧ x.2.to ≤ s.size ∧ oneAt s x.2.fr = (0, 0, x.2)) → glueOk it → Chain ⟨(A ++ layL s Z it).toArray⟩ A.length (wantL A.length it)
  | [], A, _, _ => by
    refine ⟨by rw [size_mk, List.length_append]; omega, fun j h1 h2 => ?_⟩
    rw [size_mk, List.length_append] at h2
    have := nth_at (A := A) (l := Z) (j - A.length)
    rw [show A.length + (j - A.length) = j by omega] at this
    show blankN (bAt ⟨(A ++ Z).toArray⟩ j) = true
    rw [this]
    unfold layL at h2
    exact nth_blank hZ (by omega)
  | (b, T) :: r, A, hit, hg => by
    obtain ⟨hb, hft, hto, hone⟩ := hit (b, T) (List.mem_cons_self ..)
    simp only at hb hft hto hone
    have hsl := segL_len (s := s) hto
    generalize ht : (⟨(A ++ layL s Z ((b, T) :: r)).toArray⟩ : ByteArray) = t
    have hsz : t.size = A.length + (b.length + ((T.to - T.fr) + (layL s Z r).length)) := by
      rw [← ht, size_mk, List.length_append, layL, List.length_append, List.length_append, hsl]
    have hag : Agr s t T.fr (A.length + b.length) (T.to - T.fr) := by
      intro j hj
      have e : A ++ layL s Z ((b, T) :: r) = A ++ b ++ (segL s T ++ layL s Z r) := by rw [layL, List.append_assoc]
      rw [← ht, e, ← List.length_append, nth_at, nth_left (by omega), segL_nth hto hj]
    have hafter : ∀ k, bAt t (A.length + b.length + (T.to - T.fr) + k) = nthN (layL s Z r) k := by
      intro k
      have e : A ++ layL s Z ((b, T) :: r) = A ++ b ++ segL s T ++ layL s Z r := by rw [layL, List.append_assoc, List.append_assoc]
      have := nth_at (A := A ++ b ++ segL s T) (l := layL s Z r) k
      rw [List.length_append, List.length_append, hsl] at this
      rw [← ht, e]; exact this
    have hnx : bAt t (A.length + b.length + (T.to - T.fr)) = bAt s (T.fr + (T.to - T.fr)) ∨ stopB (bAt t (A.length + b.length + (T.to - T.fr))) := by
      have h0 := hafter 0
      rw [Nat.add_zero] at h0
      rw [h0]
      cases r with
      | nil =>
        right
        show stopB (nthN Z 0)
        cases Z with
        | nil => exact stop0
        | cons c Z => exact stop_blank (hZ c (List.mem_cons_self ..))
      | cons x r =>
        obtain ⟨b', T'⟩ := x
        cases b' with
        | nil =>
          left
          have hadj := hg.1 rfl
          obtain ⟨_, hft', hto', _⟩ := hit ([], T') (List.mem_cons_of_mem _ (List.mem_cons_self ..))
          simp only at hft' hto'
          rw [layL, List.nil_append, nth_left (by rw [segL_len hto']; omega), segL_nth hto' (by omega)]
          congr 1; omega
        | cons c b' =>
          right
          have hb' := (hit (c :: b', T') (List.mem_cons_of_mem _ (List.mem_cons_self ..))).1
          exact stop_blank (hb' c (List.mem_cons_self ..))
    have ho := one_loc (by omega) hone (by omega) hag (fun _ => hnx)
    have ih := lay_chain hZ r (A ++ b ++ segL s T) (fun x hx => hit x (List.mem_cons_of_mem _ hx)) (by cases r with
      | nil => trivial
      | cons x r => exact hg.2)
    have e : A ++ b ++ segL s T ++ layL s Z r = A ++ layL s Z ((b, T) :: r) := by rw [layL, List.append_assoc, List.append_assoc]
    rw [e, ht, List.length_append, List.length_append, hsl] at ih
    refine ⟨by show A.length ≤ A.length + b.length; omega, by show A.length + b.length < t.size; omega, fun j h1 h2 => ?_, ho, ih⟩
    simp only at h2
    have e2 : A ++ layL s Z ((b, T) :: r) = A ++ (b ++ (segL s T ++ layL s Z r)) := by rw [layL]
    have := nth_at (A := A) (l := b ++ (segL s T ++ layL s Z r)) (j - A.length)
    rw [show A.length + (j - A.length) = j by omega, ← e2, ht, nth_left (by omega)] at this
    rw [this]
    exact nth_blank hb (by omega)
theorem lay_vl {s : ByteArray} {Z : List UInt8} (hZ : blanksL Z) : ∀ (it : List (List UInt8 × Tk)), (∀ x ∈ it, blanksL x.1 ∧ x.2.fr < x.2.to ∧ x.2.to ≤ s.size ∧ brkAt s x.2.fr = s.size ∧ brkAt s x.2.to = s.size) → VL ((layL s Z it).map UInt8.toNat)
  | [], _ => VL.ascii fun c hc => by
    obtain ⟨d, hd, rfl⟩ := List.mem_map.1 hc
    exact (blank_ascii (hZ d hd)).2
  | (b, T) :: r, hit => by
    obtain ⟨hb, h1, h2, h3, h4⟩ := hit (b, T) (List.mem_cons_self ..)
    rw [layL, List.map_append, List.map_append]
    refine VL.append (VL.ascii fun c hc => ?_) (VL.append (segL_vl (Nat.le_of_lt h1) h2 h3 h4) (lay_vl hZ r fun x hx => hit x (List.mem_cons_of_mem _ hx)))
    obtain ⟨d, hd, rfl⟩ := List.mem_map.1 hc
    exact (blank_ascii (hb d hd)).2
/-- Tokens laid out anew, with blanks, are the same tokens at their new places. -/
theorem lay_scan {s : ByteArray} (h0 : (someS s).2.1 = 0) {Z : List UInt8} (hZ : blanksL Z) (it : List (List UInt8 × Tk)) (hit : ∀ x ∈ it, blanksL x.1 ∧ x.2 ∈ (someS s).1) (hg : glueOk it) :
    someS ⟨(layL s Z it).toArray⟩ = (wantL 0 it, 0, 0) := by
  obtain ⟨hu, hch, _⟩ := some_chain h0
  have hbd := chain_bd _ 0 ((utfE_brk _).1 hu) (Nat.zero_le _) hch
  have hut : utfE ⟨(layL s Z it).toArray⟩ = 0 := by
    rw [utfE_mk]
    refine lay_vl hZ it fun x hx => ?_
    obtain ⟨h1, h2⟩ := hit x hx
    obtain ⟨_, g2, g3, g4, g5, _⟩ := hbd _ h2
    exact ⟨h1, g2, g3, g4, g5⟩
  rw [someS_eq, if_pos hut]
  refine (scan_chain _ 0 (Nat.zero_le _) ((utfE_brk _).1 hut)).2 ?_
  have := lay_chain (s := s) hZ it [] (fun x hx => by
    obtain ⟨h1, h2⟩ := hit x hx
    obtain ⟨_, g2, g3, _, _, g6⟩ := hbd _ h2
    exact ⟨h1, g2, g3, g6⟩) hg
  exact this

end Go.Proofs.YtibopkodoidjoaaGreatDoor

/- Package tree, plain laws: nodes with their places struck out; two texts of alike tokens have alike trees; a node's text. No program in sight. -/
namespace Go.Proofs.YtibopkodoidjoaaGreatDoor
open Go Go.RowKit

mutual
/-- The places struck out. -/
def Nd.strip : Nd → Nd
  | .null _ => .null 0
  | .flag _ b => .flag 0 b
  | .num _ t => .num 0 t
  | .text _ t => .text 0 t
  | .lst _ xs => .lst 0 (stripL xs)
  | .obj _ xs => .obj 0 (stripM xs)
def stripL : List Nd → List Nd
  | [] => []
  | x :: xs => x.strip :: stripL xs
def stripM : List (ByteArray × Nat × Nd) → List (ByteArray × Nat × Nd)
  | [] => []
  | (k, _, x) :: xs => (k, 0, x.strip) :: stripM xs
end
/-- A text within quotes; nothing, if it is no UTF-8. -/
def qN (t : ByteArray) : List UInt8 := if utfE t = 0 then quoteL t.data.toList else []
def litNull : List UInt8 := [110, 117, 108, 108]
def litFlag (b : Bool) : List UInt8 := if b then [116, 114, 117, 101] else [102, 97, 108, 115, 101]
mutual
/-- A node's text. -/
def fmtN : Nd → List UInt8
  | .null _ => litNull
  | .flag _ b => litFlag b
  | .num _ t => t.data.toList
  | .text _ t => qN t
  | .lst _ xs => 91 :: (fmtL true xs ++ [93])
  | .obj _ xs => 123 :: (fmtM true xs ++ [125])
/-- The items' texts, a comma ahead of each but the first. -/
def fmtL : Bool → List Nd → List UInt8
  | _, [] => []
  | b, x :: xs => (if b then [] else [44]) ++ (fmtN x ++ fmtL false xs)
def fmtM : Bool → List (ByteArray × Nat × Nd) → List UInt8
  | _, [] => []
  | b, (k, _, x) :: xs => (if b then [] else [44]) ++ (qN k ++ (58 :: (fmtN x ++ fmtM false xs)))
end
mutual
theorem fmt_strip : ∀ x : Nd, fmtN x.strip = fmtN x
  | .null _ => rfl
  | .flag _ b => rfl
  | .num _ t => rfl
  | .text _ t => rfl
  | .lst _ xs => by rw [Nd.strip, fmtN, fmtN, fmtL_strip]
  | .obj _ xs => by rw [Nd.strip, fmtN, fmtN, fmtM_strip]
theorem fmtL_strip : ∀ (xs : List Nd) (b : Bool), fmtL b (stripL xs) = fmtL b xs
  | [], _ => by rw [stripL]
  | x :: xs, b => by rw [stripL, fmtL, fmtL, fmt_strip x, fmtL_strip xs]
theorem fmtM_strip : ∀ (xs : List (ByteArray × Nat × Nd)) (b : Bool), fmtM b (stripM xs) = fmtM b xs
  | [], _ => by rw [stripM]
  | (k, p, x) :: xs, b => by rw [stripM, fmtM, fmtM, fmt_strip x, fmtM_strip xs]
end
theorem fmtL_app : ∀ (xs : List Nd) (x : Nd) (b : Bool), fmtL b (xs ++ [x]) = fmtL b xs ++ ((if b && xs.isEmpty then [] else [44]) ++ fmtN x)
  | [], x, b => by
    rw [List.nil_append, fmtL, fmtL, fmtL, List.append_nil]
    cases b <;> rfl
  | y :: xs, x, b => by
    rw [List.cons_append, fmtL, fmtL, fmtL_app xs x false]
    cases b <;> simp
theorem fmtM_app : ∀ (xs : List (ByteArray × Nat × Nd)) (k : ByteArray) (p : Nat) (x : Nd) (b : Bool), fmtM b (xs ++ [(k, p, x)]) = fmtM b xs ++ ((if b && xs.isEmpty then [] else [44]) ++ (qN k ++ (58 :: fmtN x)))
  | [], k, p, x, b => by
    rw [List.nil_append, fmtM, fmtM, fmtM, List.append_nil]
    cases b <;> rfl
  | (k', p', y) :: xs, k, p, x, b => by
    rw [List.cons_append, fmtM, fmtM, fmtM_app xs k p x false]
    cases b <;> simp
/-- What a part answers, the places struck out. -/
def PR.strip {α : Type} (f : α → α) : PR α → PR α
  | .ok x q => .ok (f x) q
  | .err k _ => .err k 0
  | .out => .out
/-- Two texts with their tokens: the same kinds, texts, numbers. -/
structure Alike (s : ByteArray) (ts : List Tk) (s' : ByteArray) (ts' : List Tk) : Prop where
  len : ts'.length = ts.length
  kind : ∀ p, kindT ts' p = kindT ts p
  text : ∀ p, textT ts' p = textT ts p
  word : ∀ p, kindT ts p = 4 → wordT s' ts' p = wordT s ts p
theorem rest_alike {s s' : ByteArray} {ts ts' : List Tk} (h : Alike s ts s' ts') (stop p : Nat) : (rest s' ts' stop p).strip id = (rest s ts stop p).strip id := by
  unfold rest
  rw [h.kind p]
  split
  · rfl
  · split <;> rfl
theorem p_alike {s s' : ByteArray} {ts ts' : List Tk} (h : Alike s ts s' ts') : ∀ f,
    (∀ deep p, (pV s' ts' f deep p).strip Nd.strip = (pV s ts f deep p).strip Nd.strip) ∧
    (∀ deep p, (pI s' ts' f deep p).strip stripL = (pI s ts f deep p).strip stripL) ∧
    (∀ deep seen p, (pM s' ts' f deep seen p).strip stripM = (pM s ts f deep seen p).strip stripM)
  | 0 => ⟨fun _ _ => by rw [pV, pV], fun _ _ => by rw [pI, pI], fun _ _ _ => by rw [pM, pM]⟩
  | f + 1 => by
    obtain ⟨iV, iI, iM⟩ := p_alike h f
    refine ⟨?_, ?_, ?_⟩
    · intro deep p
      rw [pV, pV, h.kind p, h.kind (p + 1), h.text p]
      split
      · simp only [PR.strip, Nd.strip]
      split
      · simp only [PR.strip, Nd.strip]
      split
      · simp only [PR.strip, Nd.strip]
      split
      · rename_i h4
        rw [h.word p h4]
        simp only [PR.strip, Nd.strip]
      split
      · simp only [PR.strip, Nd.strip]
      split
      · split
        · rfl
        · by_cases h9 : kindT ts (p + 1) = 9
          · rw [if_pos h9, if_pos h9]
            simp only [PR.strip, Nd.strip]
          · rw [if_neg h9, if_neg h9]
            have := iI deep (p + 1)
            revert this
            cases pI s' ts' f deep (p + 1) <;> cases pI s ts f deep (p + 1) <;> simp +contextual [PR.strip, Nd.strip]
      split
      · split
        · rfl
        · by_cases h9 : kindT ts (p + 1) = 7
          · rw [if_pos h9, if_pos h9]
            simp only [PR.strip, Nd.strip]
          · rw [if_neg h9, if_neg h9]
            have := iM deep [] (p + 1)
            revert this
            cases pM s' ts' f deep [] (p + 1) <;> cases pM s ts f deep [] (p + 1) <;> simp +contextual [PR.strip, Nd.strip]
      rfl
    · intro deep p
      rw [pI, pI]
      have h1 := iV (deep + 1) p
      revert h1
      cases pV s' ts' f (deep + 1) p <;> cases pV s ts f (deep + 1) p <;> intro h1 <;> (try (simp [PR.strip] at h1 ⊢; done)) <;> try (simp [PR.strip] at h1; simp [PR.strip, h1]; done)
      rename_i x q x' q'
      simp only [PR.strip, PR.ok.injEq] at h1
      obtain ⟨h1, rfl⟩ := h1
      have h2 := rest_alike h 9 q
      revert h2
      dsimp only
      cases rest s' ts' 9 q <;> cases rest s ts 9 q <;> intro h2 <;> (try (simp [PR.strip] at h2 ⊢; done)) <;> try (simp [PR.strip] at h2; simp [PR.strip, h2]; done)
      rename_i b r b' r'
      simp only [PR.strip, PR.ok.injEq, id] at h2
      obtain ⟨rfl, rfl⟩ := h2
      cases b with
      | true => simp only [PR.strip, stripL, h1]
      | false =>
        have h3 := iI deep r
        revert h3
        dsimp only
        cases pI s' ts' f deep r <;> cases pI s ts f deep r <;> intro h3 <;> simp_all [PR.strip, stripL]
    · intro deep seen p
      rw [pM, pM, h.kind p, h.kind (p + 1), h.text p]
      split
      · split
        · rfl
        · split
          · have h1 := iV (deep + 1) (p + 2)
            revert h1
            cases pV s' ts' f (deep + 1) (p + 2) <;> cases pV s ts f (deep + 1) (p + 2) <;> intro h1 <;> (try (simp [PR.strip] at h1 ⊢; done)) <;> try (simp [PR.strip] at h1; simp [PR.strip, h1]; done)
            rename_i x q x' q'
            simp only [PR.strip, PR.ok.injEq] at h1
            obtain ⟨h1, rfl⟩ := h1
            have h2 := rest_alike h 7 q
            revert h2
            dsimp only
            cases rest s' ts' 7 q <;> cases rest s ts 7 q <;> intro h2 <;> (try (simp [PR.strip] at h2 ⊢; done)) <;> try (simp [PR.strip] at h2; simp [PR.strip, h2]; done)
            rename_i b r b' r'
            simp only [PR.strip, PR.ok.injEq, id] at h2
            obtain ⟨rfl, rfl⟩ := h2
            cases b with
            | true => simp only [PR.strip, stripM, h1]
            | false =>
              have h3 := iM deep (seen ++ [textT ts p]) r
              revert h3
              dsimp only
              cases pM s' ts' f deep (seen ++ [textT ts p]) r <;> cases pM s ts f deep (seen ++ [textT ts p]) r <;> intro h3 <;> simp_all [PR.strip, stripM]
          · rfl
      · rfl
theorem pP_alike {s s' : ByteArray} {ts ts' : List Tk} (h : Alike s ts s' ts') : (pP s' ts').strip Nd.strip = (pP s ts).strip Nd.strip := by
  have h1 := (p_alike h (2 * ts.length + 1)).1 0 0
  unfold pP
  rw [h.len]
  revert h1
  cases pV s' ts' (2 * ts.length + 1) 0 0 <;> cases pV s ts (2 * ts.length + 1) 0 0 <;> intro h1 <;> (try (simp [PR.strip] at h1 ⊢; done)) <;> try (simp [PR.strip] at h1; simp [PR.strip, h1]; done)
  rename_i x q x' q'
  simp only [PR.strip, PR.ok.injEq] at h1
  obtain ⟨h1, rfl⟩ := h1
  dsimp only
  split
  · rfl
  · simp only [PR.strip, h1]

end Go.Proofs.YtibopkodoidjoaaGreatDoor
