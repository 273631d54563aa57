/- Rows that are kept as one array: loaded, stored, built, handed back whole; one cell stored. Over any program. Conditions: none. -/
import Derived.Test.YtldijmappinngaaGreatDoorRep
import Derived.Deep.RegionHeld3
import Derived.Deep.MidRow
import Derived.Laws.Rows
namespace Go.Kb
open Go.RowKit

theorem below_setRow {B g : Nat} {a w : World} (h : Below B a w) (hp : B ≤ g) (cs : Array Value) : Below B a (w.setRow g cs) :=
  h.trans ⟨rfl, rfl, rfl, by simp, fun k hk => setRow_other w g k cs (by omega)⟩
theorem Blk.setRow {w : World} {g : Nat} {t : TypeId} {cs : Array Value} (h : Blk w g t cs) (cs' : Array Value) : Blk (w.setRow g cs') g t cs' := setRow_heap w g cs cs' t (0, 0) h
theorem wpList_store_A {P : Program} {ops : Array Oper} {rest : List Oper} {o : Oper} {a : Act} {w : World} {Q : Exit → Act → World → Prop} (hgd : o.guard = none) (ty : TypeId) (x y : Operand) (ho : o.op = .store ty x y)
    (g : Nat) (cells : Array Value) (hx : a.eval x = .pointer (some ⟨g, 0, none⟩)) (hy : a.eval y = .agg cells)
    (t : TypeId) (old : Array Value) (hg : Blk w g t old) (hi : (P.info? ty).map (·.size) = some cells.size)
    (hold : old.size = cells.size) (h1 : cells.all (·.oneCell') = true)
    (h : ∀ w', Blk w' g t cells → (∀ (B : Nat) (a : World), Below B a w → B ≤ g → Below B a w') → wpList P ops Q rest (a.put o.dst undef) w') : wpList P ops Q (o :: rest) a w :=
  wpList_store_row hgd ty x y ho g cells hx hy t old hg hi hold h1 (h _ (Blk.setRow hg _) fun _ _ hb hB => below_setRow hb hB _)
theorem yieldsIf_load_row {P : Program} {ops : Array Oper} {S : World → Prop} {op : Oper} {a : Act} (hw : Region.wanted op (yielded ops a.tmps) = true) (ty : TypeId) (x : Operand) (ho : op.op = .load ty x)
    (g : Nat) (hx : a.eval x = .pointer (some ⟨g, 0, none⟩)) (t : TypeId) (cs : Array Value) (fr : Nat × Nat) (d : TypeDesc) (hg : ∀ w, S w → w.heap[g]? = some (.cells cs t fr))
    (hu : P.underlying ty = some d) (hd : (match d with | .struct _ | .array _ _ => true | _ => false) = true) (hi : (P.info? ty).map (·.size) = some cs.size) : YieldsIf P ops S op (.agg cs) a :=
  .inl ⟨hw, fun w hw' => by
    unfold execOp
    simp only [ho, hx, Instr.loadAt, Instr.sureAddr, Sem.run_bind, Sem.run_pure, Result.andThen_ok, run_loadVar_row w g t ty cs fr d (hg w hw') hu hd hi]⟩
theorem yieldsIf_build {P : Program} {ops : Array Oper} {S : World → Prop} {op : Oper} {a : Act} (hw : Region.wanted op (yielded ops a.tmps) = true) (t : TypeId) (parts : Array (Nat × Operand)) (ho : op.op = .build t parts) {L : Array Value}
    (hf : P.built t (parts.map fun (i, x) => (i, a.eval x)).toList = some L) : YieldsIf P ops S op (.agg L) a :=
  .inl ⟨hw, fun w _ => by
    unfold execOp
    simp only [ho, Sem.run_bind, run_build w t _ L hf, Result.andThen_ok]
    rfl⟩
theorem wpList_build_eq {P : Program} {ops : Array Oper} {rest : List Oper} {o : Oper} {a : Act} {w : World} {Q : Exit → Act → World → Prop} (hg : o.guard = none) (t : TypeId) (parts : Array (Nat × Operand)) (ho : o.op = .build t parts) {L : Array Value}
    (hf : P.built t (parts.map fun (i, x) => (i, a.eval x)).toList = some L) (h : wpList P ops Q rest (a.put o.dst (.agg L)) w) : wpList P ops Q (o :: rest) a w := by
  refine wpList_build hg t parts ho (by rw [hf]; rfl) ?_
  rw [hf]
  exact h
theorem wp_store_A {P : Program} {o : Oper} {a : Act} {w : World} {K : Act → World → Prop} {Q : Exit → Act → World → Prop} (ty : TypeId) (x y : Operand) (ho : o.op = .store ty x y)
    (g : Nat) (cells : Array Value) (hx : a.eval x = .pointer (some ⟨g, 0, none⟩)) (hy : a.eval y = .agg cells)
    (t : TypeId) (old : Array Value) (hg : Blk w g t old) (hi : (P.info? ty).map (·.size) = some cells.size)
    (hold : old.size = cells.size) (h1 : cells.all (·.oneCell') = true)
    (h : ∀ w', Blk w' g t cells → (∀ (B : Nat) (a : World), Below B a w → B ≤ g → Below B a w') → K (a.put o.dst undef) w') : o.wp P a w K Q :=
  wp_store_row ty x y ho g cells hx hy t old hg hi hold h1 (h _ (Blk.setRow hg _) fun _ _ hb hB => below_setRow hb hB _)
theorem wp_store_B {P : Program} {o : Oper} {a : Act} {w : World} {K : Act → World → Prop} {Q : Exit → Act → World → Prop} (ty : TypeId) (x y : Operand) (ho : o.op = .store ty x y)
    (g k : Nat) (hx : a.eval x = .pointer (some ⟨g, k, none⟩)) (u : Value) (hy : a.eval y = u) (h1 : u.oneCell' = true) (hc : u.cells = #[u])
    (t : TypeId) (old : Array Value) (hg : Blk w g t old) (hk : k < old.size) (hi : (P.info? ty).map (·.size) = some 1)
    (h : ∀ w', Blk w' g t (old.setIfInBounds k u) → (∀ (g' : Nat) (t' : TypeId) (c' : Array Value), g' ≠ g → Blk w g' t' c' → Blk w' g' t' c') → (∀ (B : Nat) (a : World), Below B a w → B ≤ g → Below B a w') → K (a.put o.dst undef) w') : o.wp P a w K Q := by
  have hrun : (storeVar ty ⟨g, k, none⟩ u).run P w = .ok () (w.setCell ⟨g, k, none⟩ u) := by
    have hst := run_storeCells_cells (P := P) g k [u] 0 w (fun j hj => by
        have : j = 0 := by simpa using hj
        subst this
        rw [hg.cell, Array.getElem?_eq_getElem (by omega)]
        rfl) (fun j _ => hg.frozen _) (fun v hv => by rw [List.mem_singleton.1 hv]; exact h1)
    cases hq : P.info? ty with
    | none => simp [hq] at hi
    | some i =>
      have hs : i.size = 1 := by simpa [hq] using hi
      simp only [storeVar, sizeOf, typeInfo, hc]
      simp [hq, hs, hst]
      rfl
  unfold Oper.wp execOp
  simp only [ho, hx, hy, Instr.storeAt, Instr.sureAddr, Sem.run_bind, Sem.run_pure, Result.andThen_ok, hrun]
  exact h _ (hg.set_ k u) (fun g' t' c' hne hb => hb.far (p := ⟨g, k, none⟩) hne u) (fun B a hB hl => Below.setCell hB hl u)
theorem wpList_store_B {P : Program} {ops : Array Oper} {rest : List Oper} {o : Oper} {a : Act} {w : World} {Q : Exit → Act → World → Prop} (hgd : o.guard = none) (ty : TypeId) (x y : Operand) (ho : o.op = .store ty x y)
    (g k : Nat) (hx : a.eval x = .pointer (some ⟨g, k, none⟩)) (u : Value) (hy : a.eval y = u) (h1 : u.oneCell' = true) (hc : u.cells = #[u])
    (t : TypeId) (old : Array Value) (hg : Blk w g t old) (hk : k < old.size) (hi : (P.info? ty).map (·.size) = some 1)
    (h : ∀ w', Blk w' g t (old.setIfInBounds k u) → (∀ (g' : Nat) (t' : TypeId) (c' : Array Value), g' ≠ g → Blk w g' t' c' → Blk w' g' t' c') → (∀ (B : Nat) (a : World), Below B a w → B ≤ g → Below B a w') → wpList P ops Q rest (a.put o.dst undef) w') : wpList P ops Q (o :: rest) a w :=
  wpList_plain hgd fun _ hK => wp_store_B ty x y ho g k hx u hy h1 hc t old hg hk hi fun w' h1 h2 h3 => hK _ _ (h w' h1 h2 h3)
theorem results_cell_tmp {P : Program} {fn : Func} {p q : Tmp} {ty : TypeId} (h : fn.results = #[.cell p ty, .tmp q]) (tmps : Array Value) (w : World) (g : Nat) (t : TypeId) (cs : Array Value) (fr : Nat × Nat) (d : TypeDesc)
    (hp : tmps.getD p undef = .pointer (some ⟨g, 0, none⟩)) (v : Value) (hq : tmps.getD q undef = v) (hg : w.heap[g]? = some (.cells cs t fr))
    (hu : P.underlying ty = some d) (hd : (match d with | .struct _ | .array _ _ => true | _ => false) = true) (hi : (P.info? ty).map (·.size) = some cs.size) :
    (results fn tmps).run P w = .ok (.tuple #[.agg cs, v]) w := by
  have hp' : tmps[p]?.getD undef = .pointer (some ⟨g, 0, none⟩) := by simpa using hp
  have hq' : tmps[q]?.getD undef = v := by simpa using hq
  simp [results, h, hp', hq', asAddr, run_loadVar_row w g t ty cs fr d hg hu hd hi]
theorem wpList_store_AF {P : Program} {ops : Array Oper} {rest : List Oper} {o : Oper} {a : Act} {w : World} {Q : Exit → Act → World → Prop} (hgd : o.guard = none) (ty : TypeId) (x y : Operand) (ho : o.op = .store ty x y)
    (g : Nat) (cells : Array Value) (hx : a.eval x = .pointer (some ⟨g, 0, none⟩)) (hy : a.eval y = .agg cells)
    (t : TypeId) (old : Array Value) (hg : Blk w g t old) (hi : (P.info? ty).map (·.size) = some cells.size)
    (hold : old.size = cells.size) (h1 : cells.all (·.oneCell') = true)
    (h : ∀ w', Blk w' g t cells → (∀ (g' : Nat) (t' : TypeId) (c' : Array Value), g' ≠ g → Blk w g' t' c' → Blk w' g' t' c') → (∀ (B : Nat) (a : World), Below B a w → B ≤ g → Below B a w') → wpList P ops Q rest (a.put o.dst undef) w') : wpList P ops Q (o :: rest) a w :=
  wpList_store_row hgd ty x y ho g cells hx hy t old hg hi hold h1 (h _ (Blk.setRow hg _) (fun g' t' c' hne hb => by unfold Blk; rw [setRow_other w g g' cells hne]; exact hb) fun _ _ hb hB => below_setRow hb hB _)
theorem OwnS.blk {D : Type} {e : Rep D} {T t : TypeId} {base : Nat} {B : Nat → Prop} {w w' : World} {v : Value} {ds : List D} {g : Nat} {cs : Array Value} (h : OwnS e T base B w v ds) (M : Mod (fun k => v.ownBlock = some k) w w') (hb : Blk w g t cs) (hne : T ≠ t) : Blk w' g t cs := by
  obtain ⟨us, ho, _⟩ := h
  exact hb.mod M (own_blk_ne ho hb hne)
end Go.Kb
