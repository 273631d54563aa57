/- A struct that begins with a setting; whole loads and stores of it in a statement whose order is open. Conditions: none. -/
import Derived.Test.YtpngnmokagbekaaMoF
import Derived.Test.YtpngnmokagbekaaRep
import Derived.Deep.RegionHeld3
import Derived.Deep.MidRow
namespace Go.Proofs.Ytpngnmokagbekaa
open Go.RowKit Go.Kb

theorem yieldsIf_load_row {P : Program} {ops : Array Oper} {S : World → Prop} {op : Oper} {a : Act} (hw : Region.wanted op (yielded ops a.tmps) = true) (ty : TypeId) (x : Operand) (ho : op.op = .load ty x)
    (g : Nat) (hx : a.eval x = .pointer (some ⟨g, 0, none⟩)) (t : TypeId) (cs : Array Value) (fr : Nat × Nat) (d : TypeDesc) (hg : ∀ w, S w → w.heap[g]? = some (.cells cs t fr))
    (hu : P.underlying ty = some d) (hd : (match d with | .struct _ | .array _ _ => true | _ => false) = true) (hi : (P.info? ty).map (·.size) = some cs.size) : YieldsIf P ops S op (.agg cs) a :=
  .inl ⟨hw, fun w hw' => by
    unfold execOp
    simp only [ho, hx, Instr.loadAt, Instr.sureAddr, Sem.run_bind, Sem.run_pure, Result.andThen_ok, run_loadVar_row w g t ty cs fr d (hg w hw') hu hd hi]⟩
theorem yieldsIf_build {P : Program} {ops : Array Oper} {S : World → Prop} {op : Oper} {a : Act} (hw : Region.wanted op (yielded ops a.tmps) = true) (t : TypeId) (parts : Array (Nat × Operand)) (ho : op.op = .build t parts) {L : Array Value}
    (hf : P.built t (parts.map fun (i, x) => (i, a.eval x)).toList = some L) : YieldsIf P ops S op (.agg L) a :=
  .inl ⟨hw, fun w _ => by
    unfold execOp
    simp only [ho, Sem.run_bind, run_build w t _ L hf, Result.andThen_ok]
    rfl⟩
theorem wpList_build_eq {P : Program} {ops : Array Oper} {rest : List Oper} {o : Oper} {a : Act} {w : World} {Q : Exit → Act → World → Prop} (hg : o.guard = none) (t : TypeId) (parts : Array (Nat × Operand)) (ho : o.op = .build t parts) {L : Array Value}
    (hf : P.built t (parts.map fun (i, x) => (i, a.eval x)).toList = some L) (h : wpList P ops Q rest (a.put o.dst (.agg L)) w) : wpList P ops Q (o :: rest) a w := by
  refine wpList_build hg t parts ho (by rw [hf]; rfl) ?_
  rw [hf]
  exact h
theorem wp_store_A {P : Program} {o : Oper} {a : Act} {w : World} {K : Act → World → Prop} {Q : Exit → Act → World → Prop} (ty : TypeId) (x y : Operand) (ho : o.op = .store ty x y)
    (g : Nat) (cells : Array Value) (hx : a.eval x = .pointer (some ⟨g, 0, none⟩)) (hy : a.eval y = .agg cells)
    (t : TypeId) (old : Array Value) (hg : Blk w g t old) (hi : (P.info? ty).map (·.size) = some cells.size)
    (hold : old.size = cells.size) (h1 : cells.all (·.oneCell') = true)
    (h : ∀ w', Blk w' g t cells → (∀ (B : Nat) (a : World), Below B a w → B ≤ g → Below B a w') → K (a.put o.dst undef) w') : o.wp P a w K Q :=
  wp_store_row ty x y ho g cells hx hy t old hg hi hold h1 (h _ (Blk.setRow hg _) fun _ _ hb hB => below_setRow hb hB _)
/-- a struct's cells: a setting, and what follows -/
def tmA (cs : Array Value) (xs : List Value) : Array Value := cs ++ xs.toArray
theorem tmA_mid {cs : Array Value} {xs : List Value} {w : World} {g : Nat} {T : TypeId} (hB : Blk w g T (tmA cs xs)) : w.rangeAt g 0 cs.toList := by
  intro j x hj
  have hj' : cs[j]? = some x := by simpa using hj
  have hlt : j < cs.size := (Array.getElem?_eq_some_iff.1 hj').1
  rw [hB.cell (0 + j), Nat.zero_add]
  simp only [tmA]
  rw [Array.getElem?_append_left hlt]
  exact hj'
theorem tmA_at {cs : Array Value} {xs : List Value} (h : cs.size = 24) (k : Nat) : (tmA cs xs)[24 + k]? = xs[k]? := by
  simp only [tmA]
  rw [Array.getElem?_append_right (by omega)]
  simp [h]
theorem tmA_cell {cs : Array Value} {xs : List Value} {w : World} {g : Nat} {T : TypeId} (hB : Blk w g T (tmA cs xs)) (h : cs.size = 24) {k : Nat} {v : Value} (hk : xs[k]? = some v) : w.cell? ⟨g, 24 + k, none⟩ = some v := by
  rw [hB.cell, tmA_at h, hk]
theorem tmA_eq {cs : Array Value} {t : Tm} {xs : List Value} (hl : cs.size = 24 + xs.length) (ht : cs.toList.take 24 = t.cells) (h24 : t.cells.length = 24) (hx : ∀ k, k < xs.length → cs.toList[24 + k]? = xs[k]?) : cs = tmA t.arr xs := by
  apply Array.ext'
  simp only [tmA, Tm.arr, Array.toList_append]
  apply List.ext_getElem?
  intro i
  have hll : cs.toList.length = 24 + xs.length := by simpa using hl
  rcases Nat.lt_or_ge i 24 with hi | hi
  · rw [List.getElem?_append_left (by omega), ← ht, List.getElem?_take, if_pos hi]
  · rw [List.getElem?_append_right (by omega), h24]
    rcases Nat.lt_or_ge i (24 + xs.length) with hj | hj
    · have := hx (i - 24) (by omega)
      rw [show 24 + (i - 24) = i by omega] at this
      rw [this]
    · rw [List.getElem?_eq_none (by omega), List.getElem?_eq_none (by omega)]
end Go.Proofs.Ytpngnmokagbekaa
