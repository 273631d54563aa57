/- Written by chain.py of MoE[-index_ops,-default_any] MoF MoT. No condition. -/
import Derived.Test.YtfnicinnjkbedaaGreatDoorMC17
import Derived.Deep.MidRow
import Derived.Deep.RegionHeld3
namespace Go.Proofs.YtfnicinnjkbedaaGreatDoor
open Go.RowKit Go.Kb
set_option maxRecDepth 100000

def ops0 : List Int := [36, 38, 41, 50, 51, 53, 54, 55, 60, 61, 59, 70, 72, 91]
def chars0 : List Int := [0, 3, 28, 127, 21, 4, 0, 0, 17, 19, 26, 0, 18, 23, 22, 0, 0, 0, 15]
def tm0 : Tm := ⟨chars0, 0, 38400, 38400, 1, 0⟩
def defT : Tm := ⟨[0, 3, 28, 127, 21, 4, 255, 255, 17, 19, 26, 255, 18, 23, 22, 255, 255, 255, 15], ops0.foldl (fun f op => fset f op true) 0, 38400, 38400, 1, 0⟩
/-- the characters behind k rounds -/
def chr (k : Nat) : List Int := (List.range 19).map fun j => if j < k ∧ 1 ≤ j ∧ chars0.getD j 0 = 0 then 255 else chars0.getD j 0
def flg (k : Nat) : Int := (ops0.take k).foldl (fun f op => fset f op true) 0
theorem defT_ok : defT.Ok := by
  refine ⟨rfl, by decide +kernel, by decide +kernel, by decide, by decide, by decide, by decide⟩
theorem chr_ok (k : Nat) : (⟨chr k, 0, 38400, 38400, 1, 0⟩ : Tm).Ok := by
  refine ⟨by simp [chr], ?_, ⟨by simp, by simp⟩, ⟨by simp, by simp⟩, ⟨by simp, by simp⟩, ⟨by simp, by simp⟩, ⟨by simp, by simp⟩⟩
  intro x hx
  simp only [chr, List.mem_map, List.mem_range] at hx
  obtain ⟨j, hj, rfl⟩ := hx
  have h2 : ∀ j : Nat, j < 19 → 0 ≤ chars0.getD j 0 ∧ chars0.getD j 0 ≤ 255 := by decide
  have := h2 j hj
  show 0 ≤ ite _ _ _ ∧ ite _ _ _ ≤ (255 : Int)
  split <;> omega
theorem flg_bd : ∀ k, k ≤ 14 → 0 ≤ flg k ∧ flg k < 18446744073709551616 := by decide +kernel
theorem flg_succ {k : Nat} (h : k < 14) : flg (k + 1) = fset (flg k) (ops0.getD k 0) true := by
  have : ∀ k : Nat, k < 14 → flg (k + 1) = fset (flg k) (ops0.getD k 0) true := by decide +kernel
  exact this k h
theorem ops0_bd {k : Nat} (h : k < 14) : 30 ≤ ops0.getD k 0 ∧ ops0.getD k 0 ≤ 93 := by
  have : ∀ k : Nat, k < 14 → 30 ≤ ops0.getD k 0 ∧ ops0.getD k 0 ≤ 93 := by decide
  exact this k h
theorem chr_succ {k : Nat} (h : k < 19) (h1 : 1 ≤ k) : chr (k + 1) = if chars0.getD k 0 = 0 then (chr k).set k 255 else chr k := by
  have : ∀ k : Nat, k < 19 → 1 ≤ k → chr (k + 1) = if chars0.getD k 0 = 0 then (chr k).set k 255 else chr k := by decide
  exact this k h h1
theorem chr_at {k : Nat} (h : k < 19) : (chr k).getD k 0 = chars0.getD k 0 := by
  have : ∀ k : Nat, k < 19 → (chr k).getD k 0 = chars0.getD k 0 := by decide
  exact this k h
theorem Tm.setc {t : Tm} (h : t.Ok) {k : Nat} (hk : k < 19) (x : Int) : t.arr.setIfInBounds k (.int .u8 x) = ({ t with c := t.c.set k x } : Tm).arr := by
  obtain ⟨c, f0, i, o, m, tt⟩ := t
  have hc : c.length = 19 := h.c
  simp only [Tm.arr, Tm.cells]
  apply Array.ext'
  simp [hc, hk, List.map_set]
/-- cells laid over a row from a place on -/
def putAll : Array Value → Nat → List Value → Array Value
  | cs, _, [] => cs
  | cs, o, v :: vs => putAll (cs.setIfInBounds o v) (o + 1) vs
theorem Blk.setCells {g : Nat} {t : TypeId} : ∀ {vs : List Value} {w : World} {cs : Array Value} {o : Nat}, Blk w g t cs → Blk (w.setCells g o vs) g t (putAll cs o vs)
  | [], _, _, _, h => h
  | v :: vs, _, _, o, h => Blk.setCells (vs := vs) (o := o + 1) (h.set_ o v)
theorem below_setCells {B g : Nat} {a : World} (hp : B ≤ g) : ∀ {vs : List Value} {w : World} {o : Nat}, Below B a w → Below B a (w.setCells g o vs)
  | [], _, _, h => h
  | v :: vs, _, o, h => below_setCells hp (vs := vs) (o := o + 1) (h.setCell (p := ⟨g, o, none⟩) hp v)
theorem Blk.far_cells {g k : Nat} {t : TypeId} (hg : g ≠ k) : ∀ {vs : List Value} {w : World} {cs : Array Value} {o : Nat}, Blk w g t cs → Blk (w.setCells k o vs) g t cs
  | [], _, _, _, h => h
  | v :: vs, _, _, o, h => Blk.far_cells hg (vs := vs) (o := o + 1) (h.far (p := ⟨k, o, none⟩) hg v)
theorem Blk.there {w : World} {g o n : Nat} {t : TypeId} {cs : Array Value} (h : Blk w g t cs) (hn : o + n ≤ cs.size) : w.there g o n := fun j hj => ⟨by
  rw [h.cell, Array.getElem?_eq_getElem (by omega)]; rfl, h.frozen _⟩
theorem Blk.cast {w : World} {g : Nat} {t : TypeId} {cs cs' : Array Value} (h : Blk w g t cs) (e : cs = cs') : Blk w g t cs' := e ▸ h
def zT : Tm := ⟨List.replicate 19 0, 0, 0, 0, 0, 0⟩
def chT (k : Nat) : Tm := ⟨chr k, 0, 38400, 38400, 1, 0⟩
def fT (k : Nat) : Tm := ⟨chr 19, flg k, 38400, 38400, 1, 0⟩
theorem fT_ok {k : Nat} (h : k ≤ 14) : (fT k).Ok := ⟨(chr_ok 19).c, (chr_ok 19).b, flg_bd k h, (chr_ok 19).i, (chr_ok 19).o, (chr_ok 19).m, (chr_ok 19).t⟩
end Go.Proofs.YtfnicinnjkbedaaGreatDoor
namespace Go.Proofs.YtfnicinnjkbedaaGreatDoor
open Go.RowKit Go.Kb

theorem wpList_store_A {P : Program} {ops : Array Oper} {rest : List Oper} {o : Oper} {a : Act} {w : World} {Q : Exit → Act → World → Prop} (hgd : o.guard = none) (ty : TypeId) (x y : Operand) (ho : o.op = .store ty x y)
    (g : Nat) (cells : Array Value) (hx : a.eval x = .pointer (some ⟨g, 0, none⟩)) (hy : a.eval y = .agg cells)
    (t : TypeId) (old : Array Value) (hg : Blk w g t old) (hi : (P.info? ty).map (·.size) = some cells.size)
    (hold : old.size = cells.size) (h1 : cells.all (·.oneCell') = true)
    (h : ∀ w', Blk w' g t cells → (∀ (B : Nat) (a : World), Below B a w → B ≤ g → Below B a w') → wpList P ops Q rest (a.put o.dst undef) w') : wpList P ops Q (o :: rest) a w :=
  wpList_store_row hgd ty x y ho g cells hx hy t old hg hi hold h1 (h _ (Blk.setRow hg _) fun _ _ hb hB => below_setRow hb hB _)
end Go.Proofs.YtfnicinnjkbedaaGreatDoor
namespace Go.Proofs.YtfnicinnjkbedaaGreatDoor
open Go.RowKit Go.Kb

theorem yieldsIf_load_row {P : Program} {ops : Array Oper} {S : World → Prop} {op : Oper} {a : Act} (hw : Region.wanted op (yielded ops a.tmps) = true) (ty : TypeId) (x : Operand) (ho : op.op = .load ty x)
    (g : Nat) (hx : a.eval x = .pointer (some ⟨g, 0, none⟩)) (t : TypeId) (cs : Array Value) (fr : Nat × Nat) (d : TypeDesc) (hg : ∀ w, S w → w.heap[g]? = some (.cells cs t fr))
    (hu : P.underlying ty = some d) (hd : (match d with | .struct _ | .array _ _ => true | _ => false) = true) (hi : (P.info? ty).map (·.size) = some cs.size) : YieldsIf P ops S op (.agg cs) a :=
  .inl ⟨hw, fun w hw' => by
    unfold execOp
    simp only [ho, hx, Instr.loadAt, Instr.sureAddr, Sem.run_bind, Sem.run_pure, Result.andThen_ok, run_loadVar_row w g t ty cs fr d (hg w hw') hu hd hi]⟩
theorem yieldsIf_build {P : Program} {ops : Array Oper} {S : World → Prop} {op : Oper} {a : Act} (hw : Region.wanted op (yielded ops a.tmps) = true) (t : TypeId) (parts : Array (Nat × Operand)) (ho : op.op = .build t parts) {L : Array Value}
    (hf : P.built t (parts.map fun (i, x) => (i, a.eval x)).toList = some L) : YieldsIf P ops S op (.agg L) a :=
  .inl ⟨hw, fun w _ => by
    unfold execOp
    simp only [ho, Sem.run_bind, run_build w t _ L hf, Result.andThen_ok]
    rfl⟩
theorem wpList_build_eq {P : Program} {ops : Array Oper} {rest : List Oper} {o : Oper} {a : Act} {w : World} {Q : Exit → Act → World → Prop} (hg : o.guard = none) (t : TypeId) (parts : Array (Nat × Operand)) (ho : o.op = .build t parts) {L : Array Value}
    (hf : P.built t (parts.map fun (i, x) => (i, a.eval x)).toList = some L) (h : wpList P ops Q rest (a.put o.dst (.agg L)) w) : wpList P ops Q (o :: rest) a w := by
  refine wpList_build hg t parts ho (by rw [hf]; rfl) ?_
  rw [hf]
  exact h
theorem wp_store_A {P : Program} {o : Oper} {a : Act} {w : World} {K : Act → World → Prop} {Q : Exit → Act → World → Prop} (ty : TypeId) (x y : Operand) (ho : o.op = .store ty x y)
    (g : Nat) (cells : Array Value) (hx : a.eval x = .pointer (some ⟨g, 0, none⟩)) (hy : a.eval y = .agg cells)
    (t : TypeId) (old : Array Value) (hg : Blk w g t old) (hi : (P.info? ty).map (·.size) = some cells.size)
    (hold : old.size = cells.size) (h1 : cells.all (·.oneCell') = true)
    (h : ∀ w', Blk w' g t cells → (∀ (B : Nat) (a : World), Below B a w → B ≤ g → Below B a w') → K (a.put o.dst undef) w') : o.wp P a w K Q :=
  wp_store_row ty x y ho g cells hx hy t old hg hi hold h1 (h _ (Blk.setRow hg _) fun _ _ hb hB => below_setRow hb hB _)
/-- a struct's cells: a setting, and what follows -/
def tmA (cs : Array Value) (xs : List Value) : Array Value := cs ++ xs.toArray
theorem tmA_mid {cs : Array Value} {xs : List Value} {w : World} {g : Nat} {T : TypeId} (hB : Blk w g T (tmA cs xs)) : w.rangeAt g 0 cs.toList := by
  intro j x hj
  have hj' : cs[j]? = some x := by simpa using hj
  have hlt : j < cs.size := (Array.getElem?_eq_some_iff.1 hj').1
  rw [hB.cell (0 + j), Nat.zero_add]
  simp only [tmA]
  rw [Array.getElem?_append_left hlt]
  exact hj'
theorem tmA_at {cs : Array Value} {xs : List Value} (h : cs.size = 24) (k : Nat) : (tmA cs xs)[24 + k]? = xs[k]? := by
  simp only [tmA]
  rw [Array.getElem?_append_right (by omega)]
  simp [h]
theorem tmA_cell {cs : Array Value} {xs : List Value} {w : World} {g : Nat} {T : TypeId} (hB : Blk w g T (tmA cs xs)) (h : cs.size = 24) {k : Nat} {v : Value} (hk : xs[k]? = some v) : w.cell? ⟨g, 24 + k, none⟩ = some v := by
  rw [hB.cell, tmA_at h, hk]
theorem tmA_eq {cs : Array Value} {t : Tm} {xs : List Value} (hl : cs.size = 24 + xs.length) (ht : cs.toList.take 24 = t.cells) (h24 : t.cells.length = 24) (hx : ∀ k, k < xs.length → cs.toList[24 + k]? = xs[k]?) : cs = tmA t.arr xs := by
  apply Array.ext'
  simp only [tmA, Tm.arr, Array.toList_append]
  apply List.ext_getElem?
  intro i
  have hll : cs.toList.length = 24 + xs.length := by simpa using hl
  rcases Nat.lt_or_ge i 24 with hi | hi
  · rw [List.getElem?_append_left (by omega), ← ht, List.getElem?_take, if_pos hi]
  · rw [List.getElem?_append_right (by omega), h24]
    rcases Nat.lt_or_ge i (24 + xs.length) with hj | hj
    · have := hx (i - 24) (by omega)
      rw [show 24 + (i - 24) = i by omega] at this
      rw [this]
    · rw [List.getElem?_eq_none (by omega), List.getElem?_eq_none (by omega)]
end Go.Proofs.YtfnicinnjkbedaaGreatDoor
