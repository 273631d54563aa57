/- A process is the same as itself. Conditions: the numbers fit. -/
import Derived.Test.YtmpmnikgbepphaaMA20
import Derived.DeepKeys
import Derived.Laws.StructEq
namespace Go.Proofs.Ytmpmnikgbepphaa
open Go.RowKit Go.Kb
set_option linter.unusedSimpArgs false

/-- its numbers fit -/
def Pr.wf (p : Pr) : Prop := (Lit.int .i64 p.pid).wf = true ∧ (Lit.int .i64 p.parent).wf = true ∧ (Lit.int .i64 p.group).wf = true ∧ (Lit.int .i64 p.session).wf = true ∧ (Lit.int .i64 p.state).wf = true ∧ (Lit.int .i64 p.prog).wf = true ∧ (Lit.int .i64 p.pc).wf = true ∧ (Lit.int .u64 p.pending).wf = true ∧ (Lit.int .u64 p.mask).wf = true ∧ (∀ x ∈ p.acts, (Lit.int .i64 x).wf = true) ∧ (Lit.int .i64 p.status).wf = true
def Pr.lits (p : Pr) : List Lit := [.int .i64 p.pid, .int .i64 p.parent, .int .i64 p.group, .int .i64 p.session, .int .i64 p.state, .int .i64 p.prog, .int .i64 p.pc, .int .u64 p.pending, .int .u64 p.mask] ++ (p.acts.map (Lit.int .i64) ++ [.int .i64 p.status, .bool p.told])
set_option maxRecDepth 100000 in
theorem rpr_acts {a : List Int} (hl : a.length = 32) (hw : ∀ x ∈ a, (Lit.int .i64 x).wf = true) (d : Nat) : Try.prog.keyLits (d + 2) 40 (a.map (Value.int .i64)) = some (a.map (Lit.int .i64)) := by
  have c1 : Try.prog.cellsOf 3 = 1 := by kernel_rfl
  have c32 : Try.prog.cellsOf 40 = 32 := by kernel_rfl
  have lit : ∀ {x : Int}, (Lit.int .i64 x).wf = true → Try.prog.keyLits (d + 1) 3 [.int .i64 x] = some [Lit.int .i64 x] := fun h => by simp [Program.keyLits, Try.underlying3, h]
  obtain ⟨x0, x1, x2, x3, x4, x5, x6, x7, x8, x9, x10, x11, x12, x13, x14, x15, x16, x17, x18, x19, x20, x21, x22, x23, x24, x25, x26, x27, x28, x29, x30, x31, rfl⟩ : ∃ x0 x1 x2 x3 x4 x5 x6 x7 x8 x9 x10 x11 x12 x13 x14 x15 x16 x17 x18 x19 x20 x21 x22 x23 x24 x25 x26 x27 x28 x29 x30 x31, a = [x0, x1, x2, x3, x4, x5, x6, x7, x8, x9, x10, x11, x12, x13, x14, x15, x16, x17, x18, x19, x20, x21, x22, x23, x24, x25, x26, x27, x28, x29, x30, x31] := by
    match a, hl with
    | [x0, x1, x2, x3, x4, x5, x6, x7, x8, x9, x10, x11, x12, x13, x14, x15, x16, x17, x18, x19, x20, x21, x22, x23, x24, x25, x26, x27, x28, x29, x30, x31], _ => exact ⟨x0, x1, x2, x3, x4, x5, x6, x7, x8, x9, x10, x11, x12, x13, x14, x15, x16, x17, x18, x19, x20, x21, x22, x23, x24, x25, x26, x27, x28, x29, x30, x31, rfl⟩
  simp only [List.mem_cons, List.not_mem_nil, or_false, forall_eq_or_imp, forall_eq] at hw
  obtain ⟨h0, h1, h2, h3, h4, h5, h6, h7, h8, h9, h10, h11, h12, h13, h14, h15, h16, h17, h18, h19, h20, h21, h22, h23, h24, h25, h26, h27, h28, h29, h30, h31⟩ := hw
  unfold Program.keyLits
  simp [Try.underlying40, c1, c32, List.range, List.range.loop, lit h0, lit h1, lit h2, lit h3, lit h4, lit h5, lit h6, lit h7, lit h8, lit h9, lit h10, lit h11, lit h12, lit h13, lit h14, lit h15, lit h16, lit h17, lit h18, lit h19, lit h20, lit h21, lit h22, lit h23, lit h24, lit h25, lit h26, lit h27, lit h28, lit h29, lit h30, lit h31]
set_option maxRecDepth 100000 in
theorem tpr_acts {a : List Int} (hl : a.length = 32) (hw : ∀ x ∈ a, (Lit.int .i64 x).wf = true) (d : Nat) : Try.prog.keyLits (d + 2) 41 (a.map (Value.int .i64)) = some (a.map (Lit.int .i64)) := by
  have c1 : Try.prog.cellsOf 3 = 1 := by kernel_rfl
  have c32 : Try.prog.cellsOf 41 = 32 := by kernel_rfl
  have lit : ∀ {x : Int}, (Lit.int .i64 x).wf = true → Try.prog.keyLits (d + 1) 3 [.int .i64 x] = some [Lit.int .i64 x] := fun h => by simp [Program.keyLits, Try.underlying3, h]
  obtain ⟨x0, x1, x2, x3, x4, x5, x6, x7, x8, x9, x10, x11, x12, x13, x14, x15, x16, x17, x18, x19, x20, x21, x22, x23, x24, x25, x26, x27, x28, x29, x30, x31, rfl⟩ : ∃ x0 x1 x2 x3 x4 x5 x6 x7 x8 x9 x10 x11 x12 x13 x14 x15 x16 x17 x18 x19 x20 x21 x22 x23 x24 x25 x26 x27 x28 x29 x30 x31, a = [x0, x1, x2, x3, x4, x5, x6, x7, x8, x9, x10, x11, x12, x13, x14, x15, x16, x17, x18, x19, x20, x21, x22, x23, x24, x25, x26, x27, x28, x29, x30, x31] := by
    match a, hl with
    | [x0, x1, x2, x3, x4, x5, x6, x7, x8, x9, x10, x11, x12, x13, x14, x15, x16, x17, x18, x19, x20, x21, x22, x23, x24, x25, x26, x27, x28, x29, x30, x31], _ => exact ⟨x0, x1, x2, x3, x4, x5, x6, x7, x8, x9, x10, x11, x12, x13, x14, x15, x16, x17, x18, x19, x20, x21, x22, x23, x24, x25, x26, x27, x28, x29, x30, x31, rfl⟩
  simp only [List.mem_cons, List.not_mem_nil, or_false, forall_eq_or_imp, forall_eq] at hw
  obtain ⟨h0, h1, h2, h3, h4, h5, h6, h7, h8, h9, h10, h11, h12, h13, h14, h15, h16, h17, h18, h19, h20, h21, h22, h23, h24, h25, h26, h27, h28, h29, h30, h31⟩ := hw
  unfold Program.keyLits
  simp [Try.underlying41, c1, c32, List.range, List.range.loop, lit h0, lit h1, lit h2, lit h3, lit h4, lit h5, lit h6, lit h7, lit h8, lit h9, lit h10, lit h11, lit h12, lit h13, lit h14, lit h15, lit h16, lit h17, lit h18, lit h19, lit h20, lit h21, lit h22, lit h23, lit h24, lit h25, lit h26, lit h27, lit h28, lit h29, lit h30, lit h31]
set_option maxRecDepth 100000 in
theorem rpr_lits {p : Pr} (h : p.ok) (hw : p.wf) (d : Nat) : Try.prog.keyLits (d + 3) 58 p.cells = some p.lits := by
  have h32 : p.acts.length = 32 := h
  obtain ⟨w0, w1, w2, w3, w4, w5, w6, w7, w8, wa, w10⟩ := hw
  have cT : Try.prog.cellsOf 58 = 43 := by kernel_rfl
  have cA : Try.prog.cellsOf 40 = 32 := by kernel_rfl
  have c1 : Try.prog.cellsOf 3 = 1 := by kernel_rfl
  have c2 : Try.prog.cellsOf 38 = 1 := by kernel_rfl
  have c3 : Try.prog.cellsOf 4 = 1 := by kernel_rfl
  have c4 : Try.prog.cellsOf 40 = 32 := by kernel_rfl
  have li : ∀ {x : Int}, (Lit.int .i64 x).wf = true → Try.prog.keyLits (d + 2) 3 [.int .i64 x] = some [Lit.int .i64 x] := fun hx => by simp [Program.keyLits, Try.underlying3, hx]
  have lu : ∀ {x : Int}, (Lit.int .u64 x).wf = true → Try.prog.keyLits (d + 2) 38 [.int .u64 x] = some [Lit.int .u64 x] := fun hx => by simp [Program.keyLits, Try.underlying38, hx]
  have lb : Try.prog.keyLits (d + 2) 4 [.bool p.told] = some [Lit.bool p.told] := by simp [Program.keyLits, Try.underlying4]
  have la : Try.prog.keyLits (d + 2) 40 (p.acts.map (Value.int .i64)) = some (p.acts.map (Lit.int .i64)) := rpr_acts h32 wa d
  have hlen : p.cells.length = 43 := Pr.len h
  have e0 : (p.cells.drop 0).take 1 = [.int .i64 p.pid] := rfl
  have e1 : p.cells.tail.take 1 = [.int .i64 p.parent] := rfl
  have e2 : (p.cells.drop 2).take 1 = [.int .i64 p.group] := rfl
  have e3 : (p.cells.drop 3).take 1 = [.int .i64 p.session] := rfl
  have e4 : (p.cells.drop 4).take 1 = [.int .i64 p.state] := rfl
  have e5 : (p.cells.drop 5).take 1 = [.int .i64 p.prog] := rfl
  have e6 : (p.cells.drop 6).take 1 = [.int .i64 p.pc] := rfl
  have e7 : (p.cells.drop 7).take 1 = [.int .u64 p.pending] := rfl
  have e8 : (p.cells.drop 8).take 1 = [.int .u64 p.mask] := rfl
  have e9 : (p.cells.drop 9).take 32 = p.acts.map (Value.int .i64) := by
    show ((p.acts.map (Value.int .i64)) ++ ([Value.int .i64 p.status, Value.bool p.told] : List Value)).take 32 = _
    rw [List.take_left' (by simp [h32])]
  have e41 : (p.cells.drop 41).take 1 = [.int .i64 p.status] := by
    show (((p.acts.map (Value.int .i64)) ++ ([Value.int .i64 p.status, Value.bool p.told] : List Value)).drop 32).take 1 = _
    rw [List.drop_left' (by simp [h32])]; rfl
  have e42 : (p.cells.drop 42).take 1 = [.bool p.told] := by
    show (((p.acts.map (Value.int .i64)) ++ ([Value.int .i64 p.status, Value.bool p.told] : List Value)).drop 33).take 1 = _
    rw [show 33 = 32 + 1 by rfl, ← List.drop_drop, List.drop_left' (by simp [h32])]; rfl
  rw [List.drop_zero] at e0
  unfold Program.keyLits
  simp [Try.underlying58, cT, cA, c1, c2, c3, c4, hlen, e0, e1, e2, e3, e4, e5, e6, e7, e8, e9, e41, e42, la, lb, li w0, li w1, li w2, li w3, li w4, li w5, li w6, lu w7, lu w8, li w10, Pr.lits]
set_option maxRecDepth 100000 in
theorem rpr_eql {p : Pr} (h : p.ok) (hw : p.wf) (w : World) : (Op.equalIn 10000 58 (.agg p.cells.toArray) (.agg p.cells.toArray)).run Try.prog w = .ok true w := by
  have hk : Try.prog.keyTypeAt 3 58 = true := by kernel_rfl
  have cT : Try.prog.cellsOf 58 = 43 := by kernel_rfl
  have hf : (Value.agg p.cells.toArray).formed Try.prog 58 = true := by
    simp [Value.formed, Try.underlying58, Pr.len h, cT]
  obtain ⟨r, hr, hiff⟩ := run_equalIn_deep (P := Try.prog) 9997 3 58 hk w 3 3 (.agg p.cells.toArray) (.agg p.cells.toArray) p.lits p.lits hf hf (rpr_lits h hw 0) (rpr_lits h hw 0)
  rw [hr]
  congr 1
  exact hiff.2 rfl
theorem rpr_guard : Try.prog.eqGuardType Try.prog.depth 58 = false := by kernel_rfl
set_option maxRecDepth 100000 in
theorem tpr_lits {p : Pr} (h : p.ok) (hw : p.wf) (d : Nat) : Try.prog.keyLits (d + 3) 43 p.cells = some p.lits := by
  have h32 : p.acts.length = 32 := h
  obtain ⟨w0, w1, w2, w3, w4, w5, w6, w7, w8, wa, w10⟩ := hw
  have cT : Try.prog.cellsOf 43 = 43 := by kernel_rfl
  have cA : Try.prog.cellsOf 41 = 32 := by kernel_rfl
  have c1 : Try.prog.cellsOf 3 = 1 := by kernel_rfl
  have c2 : Try.prog.cellsOf 39 = 1 := by kernel_rfl
  have c3 : Try.prog.cellsOf 4 = 1 := by kernel_rfl
  have c4 : Try.prog.cellsOf 40 = 32 := by kernel_rfl
  have li : ∀ {x : Int}, (Lit.int .i64 x).wf = true → Try.prog.keyLits (d + 2) 3 [.int .i64 x] = some [Lit.int .i64 x] := fun hx => by simp [Program.keyLits, Try.underlying3, hx]
  have lu : ∀ {x : Int}, (Lit.int .u64 x).wf = true → Try.prog.keyLits (d + 2) 39 [.int .u64 x] = some [Lit.int .u64 x] := fun hx => by simp [Program.keyLits, Try.underlying39, hx]
  have lb : Try.prog.keyLits (d + 2) 4 [.bool p.told] = some [Lit.bool p.told] := by simp [Program.keyLits, Try.underlying4]
  have la : Try.prog.keyLits (d + 2) 41 (p.acts.map (Value.int .i64)) = some (p.acts.map (Lit.int .i64)) := tpr_acts h32 wa d
  have hlen : p.cells.length = 43 := Pr.len h
  have e0 : (p.cells.drop 0).take 1 = [.int .i64 p.pid] := rfl
  have e1 : p.cells.tail.take 1 = [.int .i64 p.parent] := rfl
  have e2 : (p.cells.drop 2).take 1 = [.int .i64 p.group] := rfl
  have e3 : (p.cells.drop 3).take 1 = [.int .i64 p.session] := rfl
  have e4 : (p.cells.drop 4).take 1 = [.int .i64 p.state] := rfl
  have e5 : (p.cells.drop 5).take 1 = [.int .i64 p.prog] := rfl
  have e6 : (p.cells.drop 6).take 1 = [.int .i64 p.pc] := rfl
  have e7 : (p.cells.drop 7).take 1 = [.int .u64 p.pending] := rfl
  have e8 : (p.cells.drop 8).take 1 = [.int .u64 p.mask] := rfl
  have e9 : (p.cells.drop 9).take 32 = p.acts.map (Value.int .i64) := by
    show ((p.acts.map (Value.int .i64)) ++ ([Value.int .i64 p.status, Value.bool p.told] : List Value)).take 32 = _
    rw [List.take_left' (by simp [h32])]
  have e41 : (p.cells.drop 41).take 1 = [.int .i64 p.status] := by
    show (((p.acts.map (Value.int .i64)) ++ ([Value.int .i64 p.status, Value.bool p.told] : List Value)).drop 32).take 1 = _
    rw [List.drop_left' (by simp [h32])]; rfl
  have e42 : (p.cells.drop 42).take 1 = [.bool p.told] := by
    show (((p.acts.map (Value.int .i64)) ++ ([Value.int .i64 p.status, Value.bool p.told] : List Value)).drop 33).take 1 = _
    rw [show 33 = 32 + 1 by rfl, ← List.drop_drop, List.drop_left' (by simp [h32])]; rfl
  rw [List.drop_zero] at e0
  unfold Program.keyLits
  simp [Try.underlying43, cT, cA, c1, c2, c3, c4, hlen, e0, e1, e2, e3, e4, e5, e6, e7, e8, e9, e41, e42, la, lb, li w0, li w1, li w2, li w3, li w4, li w5, li w6, lu w7, lu w8, li w10, Pr.lits]
set_option maxRecDepth 100000 in
theorem tpr_eql {p : Pr} (h : p.ok) (hw : p.wf) (w : World) : (Op.equalIn 10000 43 (.agg p.cells.toArray) (.agg p.cells.toArray)).run Try.prog w = .ok true w := by
  have hk : Try.prog.keyTypeAt 3 43 = true := by kernel_rfl
  have cT : Try.prog.cellsOf 43 = 43 := by kernel_rfl
  have hf : (Value.agg p.cells.toArray).formed Try.prog 43 = true := by
    simp [Value.formed, Try.underlying43, Pr.len h, cT]
  obtain ⟨r, hr, hiff⟩ := run_equalIn_deep (P := Try.prog) 9997 3 43 hk w 3 3 (.agg p.cells.toArray) (.agg p.cells.toArray) p.lits p.lits hf hf (tpr_lits h hw 0) (tpr_lits h hw 0)
  rw [hr]
  congr 1
  exact hiff.2 rfl
theorem tpr_guard : Try.prog.eqGuardType Try.prog.depth 43 = false := by kernel_rfl
theorem wpList_eql_struct {P : Program} {ops : Array Oper} {rest : List Oper} {o : Oper} {a : Act} {w : World} {Q : Exit → Act → World → Prop} (hgd : o.guard = none) (t : TypeId) (x y : Operand) (ho : o.op = .binOp .eql t x y t)
    (cx cy : Array Value) (hx : a.eval x = .agg cx) (hy : a.eval y = .agg cy) (r : Bool) (hm : P.eqGuardType P.depth t = false)
    (hr : (Op.equalIn 10000 t (.agg cx) (.agg cy)).run P w = .ok r w) (h : wpList P ops Q rest (a.put o.dst (.bool r)) w) : wpList P ops Q (o :: rest) a w :=
  wpList_plain hgd fun a' hK => by
    unfold Oper.wp execOp
    simp only [ho, hx, hy, Sem.run_bind, Sem.run_pure, Result.andThen_ok, run_eqGuard_agg w .eql t x y cx cy hm, run_eql_struct, hr]
    exact hK _ _ h
theorem wpList_neq_struct {P : Program} {ops : Array Oper} {rest : List Oper} {o : Oper} {a : Act} {w : World} {Q : Exit → Act → World → Prop} (hgd : o.guard = none) (t : TypeId) (x y : Operand) (ho : o.op = .binOp .neq t x y t)
    (cx cy : Array Value) (hx : a.eval x = .agg cx) (hy : a.eval y = .agg cy) (r : Bool) (hm : P.eqGuardType P.depth t = false)
    (hr : (Op.equalIn 10000 t (.agg cx) (.agg cy)).run P w = .ok r w) (h : wpList P ops Q rest (a.put o.dst (.bool (!r))) w) : wpList P ops Q (o :: rest) a w :=
  wpList_plain hgd fun a' hK => by
    unfold Oper.wp execOp
    simp only [ho, hx, hy, Sem.run_bind, Sem.run_pure, Result.andThen_ok, run_eqGuard_agg w .neq t x y cx cy hm, run_neq_struct, hr]
    exact hK _ _ h
theorem yieldsIf_eql_struct {P : Program} {ops : Array Oper} {S : World → Prop} {op : Oper} {a : Act} (hw : Region.wanted op (yielded ops a.tmps) = true) (t : TypeId) (x y : Operand) (ho : op.op = .binOp .eql t x y t)
    (cx cy : Array Value) (hx : a.eval x = .agg cx) (hy : a.eval y = .agg cy) (r : Bool) (hm : P.eqGuardType P.depth t = false)
    (hr : ∀ w, (Op.equalIn 10000 t (.agg cx) (.agg cy)).run P w = .ok r w) : YieldsIf P ops S op (.bool r) a :=
  .inl ⟨hw, fun w _ => by
    unfold execOp
    simp only [ho, hx, hy, Sem.run_bind, Sem.run_pure, Result.andThen_ok, run_eqGuard_agg w .eql t x y cx cy hm, run_eql_struct, hr w]⟩
theorem yieldsIf_neq_struct {P : Program} {ops : Array Oper} {S : World → Prop} {op : Oper} {a : Act} (hw : Region.wanted op (yielded ops a.tmps) = true) (t : TypeId) (x y : Operand) (ho : op.op = .binOp .neq t x y t)
    (cx cy : Array Value) (hx : a.eval x = .agg cx) (hy : a.eval y = .agg cy) (r b : Bool) (hb : b = !r) (hm : P.eqGuardType P.depth t = false)
    (hr : ∀ w, (Op.equalIn 10000 t (.agg cx) (.agg cy)).run P w = .ok r w) : YieldsIf P ops S op (.bool b) a :=
  .inl ⟨hw, fun w _ => by
    subst hb
    unfold execOp
    simp only [ho, hx, hy, Sem.run_bind, Sem.run_pure, Result.andThen_ok, run_eqGuard_agg w .neq t x y cx cy hm, run_neq_struct, hr w]⟩
end Go.Proofs.Ytmpmnikgbepphaa
