/- Comparing settings; storing one field of a setting; numbers of four bytes. Conditions: the settings are such. -/
import Derived.Test.YtpngnmokagbekaaMoR
import Derived.Test.YtpngnmokagbekaaRep
import Derived.DeepKeys
import Derived.Laws.StructEq
import Derived.Laws.BitsAllLaws
namespace Go.Proofs.Ytpngnmokagbekaa
open Go.RowKit Go.Kb
set_option linter.unusedSimpArgs false

/-- a single cell stored into a row, behind which the world is a letter -/
theorem wp_store_B {P : Program} {o : Oper} {a : Act} {w : World} {K : Act → World → Prop} {Q : Exit → Act → World → Prop} (ty : TypeId) (x y : Operand) (ho : o.op = .store ty x y)
    (g k : Nat) (hx : a.eval x = .pointer (some ⟨g, k, none⟩)) (u : Value) (hy : a.eval y = u) (h1 : u.oneCell' = true) (hc : u.cells = #[u])
    (t : TypeId) (old : Array Value) (hg : Blk w g t old) (hk : k < old.size) (hi : (P.info? ty).map (·.size) = some 1)
    (h : ∀ w', Blk w' g t (old.setIfInBounds k u) → (∀ (g' : Nat) (t' : TypeId) (c' : Array Value), g' ≠ g → Blk w g' t' c' → Blk w' g' t' c') → (∀ (B : Nat) (a : World), Below B a w → B ≤ g → Below B a w') → K (a.put o.dst undef) w') : o.wp P a w K Q := by
  have hrun : (storeVar ty ⟨g, k, none⟩ u).run P w = .ok () (w.setCell ⟨g, k, none⟩ u) := by
    have hst := run_storeCells_cells (P := P) g k [u] 0 w (fun j hj => by
        have : j = 0 := by simpa using hj
        subst this
        rw [hg.cell, Array.getElem?_eq_getElem (by omega)]
        rfl) (fun j _ => hg.frozen _) (fun v hv => by rw [List.mem_singleton.1 hv]; exact h1)
    cases hq : P.info? ty with
    | none => simp [hq] at hi
    | some i =>
      have hs : i.size = 1 := by simpa [hq] using hi
      simp only [storeVar, sizeOf, typeInfo, hc]
      simp [hq, hs, hst]
      rfl
  unfold Oper.wp execOp
  simp only [ho, hx, hy, Instr.storeAt, Instr.sureAddr, Sem.run_bind, Sem.run_pure, Result.andThen_ok, hrun]
  exact h _ (hg.set_ k u) (fun g' t' c' hne hb => hb.far (p := ⟨g, k, none⟩) hne u) (fun B a hB hl => Below.setCell hB hl u)
theorem wpList_store_B {P : Program} {ops : Array Oper} {rest : List Oper} {o : Oper} {a : Act} {w : World} {Q : Exit → Act → World → Prop} (hgd : o.guard = none) (ty : TypeId) (x y : Operand) (ho : o.op = .store ty x y)
    (g k : Nat) (hx : a.eval x = .pointer (some ⟨g, k, none⟩)) (u : Value) (hy : a.eval y = u) (h1 : u.oneCell' = true) (hc : u.cells = #[u])
    (t : TypeId) (old : Array Value) (hg : Blk w g t old) (hk : k < old.size) (hi : (P.info? ty).map (·.size) = some 1)
    (h : ∀ w', Blk w' g t (old.setIfInBounds k u) → (∀ (g' : Nat) (t' : TypeId) (c' : Array Value), g' ≠ g → Blk w g' t' c' → Blk w' g' t' c') → (∀ (B : Nat) (a : World), Below B a w → B ≤ g → Below B a w') → wpList P ops Q rest (a.put o.dst undef) w') : wpList P ops Q (o :: rest) a w :=
  wpList_plain hgd fun _ hK => wp_store_B ty x y ho g k hx u hy h1 hc t old hg hk hi fun w' h1 h2 h3 => hK _ _ (h w' h1 h2 h3)
/-- two settings compared -/
theorem wp_eql_struct {P : Program} {o : Oper} {a : Act} {w : World} {K : Act → World → Prop} {Q : Exit → Act → World → Prop} (t : TypeId) (x y : Operand) (ho : o.op = .binOp .eql t x y t)
    (cx cy : Array Value) (hx : a.eval x = .agg cx) (hy : a.eval y = .agg cy) (r : Bool) (hm : P.eqGuardType P.depth t = false)
    (hr : (Op.equalIn 10000 t (.agg cx) (.agg cy)).run P w = .ok r w) (h : K (a.put o.dst (.bool r)) w) : o.wp P a w K Q := by
  unfold Oper.wp execOp
  simp only [ho, hx, hy, Sem.run_bind, Sem.run_pure, Result.andThen_ok, run_eqGuard_agg w .eql t x y cx cy hm, run_eql_struct, hr]
  exact h
theorem wp_neq_struct {P : Program} {o : Oper} {a : Act} {w : World} {K : Act → World → Prop} {Q : Exit → Act → World → Prop} (t : TypeId) (x y : Operand) (ho : o.op = .binOp .neq t x y t)
    (cx cy : Array Value) (hx : a.eval x = .agg cx) (hy : a.eval y = .agg cy) (r : Bool) (hm : P.eqGuardType P.depth t = false)
    (hr : (Op.equalIn 10000 t (.agg cx) (.agg cy)).run P w = .ok r w) (h : K (a.put o.dst (.bool (!r))) w) : o.wp P a w K Q := by
  unfold Oper.wp execOp
  simp only [ho, hx, hy, Sem.run_bind, Sem.run_pure, Result.andThen_ok, run_eqGuard_agg w .neq t x y cx cy hm, run_neq_struct, hr]
  exact h
theorem wpList_eql_struct {P : Program} {ops : Array Oper} {rest : List Oper} {o : Oper} {a : Act} {w : World} {Q : Exit → Act → World → Prop} (hgd : o.guard = none) (t : TypeId) (x y : Operand) (ho : o.op = .binOp .eql t x y t)
    (cx cy : Array Value) (hx : a.eval x = .agg cx) (hy : a.eval y = .agg cy) (r : Bool) (hm : P.eqGuardType P.depth t = false)
    (hr : (Op.equalIn 10000 t (.agg cx) (.agg cy)).run P w = .ok r w) (h : wpList P ops Q rest (a.put o.dst (.bool r)) w) : wpList P ops Q (o :: rest) a w :=
  wpList_plain hgd fun _ hK => wp_eql_struct t x y ho cx cy hx hy r hm hr (hK _ _ h)
theorem wpList_neq_struct {P : Program} {ops : Array Oper} {rest : List Oper} {o : Oper} {a : Act} {w : World} {Q : Exit → Act → World → Prop} (hgd : o.guard = none) (t : TypeId) (x y : Operand) (ho : o.op = .binOp .neq t x y t)
    (cx cy : Array Value) (hx : a.eval x = .agg cx) (hy : a.eval y = .agg cy) (r : Bool) (hm : P.eqGuardType P.depth t = false)
    (hr : (Op.equalIn 10000 t (.agg cx) (.agg cy)).run P w = .ok r w) (h : wpList P ops Q rest (a.put o.dst (.bool (!r))) w) : wpList P ops Q (o :: rest) a w :=
  wpList_plain hgd fun _ hK => wp_neq_struct t x y ho cx cy hx hy r hm hr (hK _ _ h)
theorem tm_guard : Try.prog.eqGuardType Try.prog.depth 27 = false := by kernel_rfl
def Tm.lits (t : Tm) : List Lit := t.c.map (Lit.int .u8) ++ [Lit.int .u64 t.f, Lit.int .u32 t.i, Lit.int .u32 t.o, Lit.int .i64 t.m, Lit.int .i64 t.t]
theorem lit_u8 {x : Int} (h : 0 ≤ x ∧ x ≤ 255) (d : Nat) : Try.prog.keyLits (d + 1) 5 [.int .u8 x] = some [Lit.int .u8 x] := by
  have hw : (Lit.int .u8 x).wf = true := by simpa [Lit.wf, IntKind.min, IntKind.max, IntKind.signed, IntKind.bits] using h
  simp [Program.keyLits, Try.underlying5, hw]
theorem lits_chars {c : List Int} (hl : c.length = 19) (hb : ∀ x ∈ c, 0 ≤ x ∧ x ≤ 255) (d : Nat) : Try.prog.keyLits (d + 2) 23 (c.map (.int .u8)) = some (c.map (Lit.int .u8)) := by
  have c1 : Try.prog.cellsOf 5 = 1 := by kernel_rfl
  have c19 : Try.prog.cellsOf 23 = 19 := by kernel_rfl
  obtain ⟨x0, x1, x2, x3, x4, x5, x6, x7, x8, x9, x10, x11, x12, x13, x14, x15, x16, x17, x18, rfl⟩ : ∃ x0 x1 x2 x3 x4 x5 x6 x7 x8 x9 x10 x11 x12 x13 x14 x15 x16 x17 x18, c = [x0, x1, x2, x3, x4, x5, x6, x7, x8, x9, x10, x11, x12, x13, x14, x15, x16, x17, x18] := by
    match c, hl with
    | [x0, x1, x2, x3, x4, x5, x6, x7, x8, x9, x10, x11, x12, x13, x14, x15, x16, x17, x18], _ => exact ⟨x0, x1, x2, x3, x4, x5, x6, x7, x8, x9, x10, x11, x12, x13, x14, x15, x16, x17, x18, rfl⟩
  simp only [List.mem_cons, List.not_mem_nil, or_false, forall_eq_or_imp, forall_eq] at hb
  obtain ⟨h0, h1, h2, h3, h4, h5, h6, h7, h8, h9, h10, h11, h12, h13, h14, h15, h16, h17, h18⟩ := hb
  unfold Program.keyLits
  simp [Try.underlying23, c1, c19, List.range, List.range.loop, lit_u8 h0, lit_u8 h1, lit_u8 h2, lit_u8 h3, lit_u8 h4, lit_u8 h5, lit_u8 h6, lit_u8 h7, lit_u8 h8, lit_u8 h9, lit_u8 h10, lit_u8 h11, lit_u8 h12, lit_u8 h13, lit_u8 h14, lit_u8 h15, lit_u8 h16, lit_u8 h17, lit_u8 h18]
theorem tm_lits {t : Tm} (h : t.Ok) (d : Nat) : Try.prog.keyLits (d + 3) 27 t.cells = some t.lits := by
  have hc := lits_chars h.c h.b d
  have hl := h.c
  have cT : Try.prog.cellsOf 27 = 24 := by kernel_rfl
  have cA : Try.prog.cellsOf 23 = 19 := by kernel_rfl
  have c1 : Try.prog.cellsOf 24 = 1 := by kernel_rfl
  have c2 : Try.prog.cellsOf 25 = 1 := by kernel_rfl
  have c3 : Try.prog.cellsOf 3 = 1 := by kernel_rfl
  have w1 : (Lit.int .u64 t.f).wf = true := by have := h.f; simp [Lit.wf, IntKind.min, IntKind.max, IntKind.signed, IntKind.bits]; omega
  have w2 : (Lit.int .u32 t.i).wf = true := by have := h.i; simp [Lit.wf, IntKind.min, IntKind.max, IntKind.signed, IntKind.bits]; omega
  have w3 : (Lit.int .u32 t.o).wf = true := by have := h.o; simp [Lit.wf, IntKind.min, IntKind.max, IntKind.signed, IntKind.bits]; omega
  have w4 : (Lit.int .i64 t.m).wf = true := by have := h.m; simp [Lit.wf, IntKind.min, IntKind.max, IntKind.signed, IntKind.bits]; omega
  have w5 : (Lit.int .i64 t.t).wf = true := by have := h.t; simp [Lit.wf, IntKind.min, IntKind.max, IntKind.signed, IntKind.bits]; omega
  have l1 : Try.prog.keyLits (d + 2) 24 [.int .u64 t.f] = some [Lit.int .u64 t.f] := by simp [Program.keyLits, Try.underlying24, w1]
  have l2 : Try.prog.keyLits (d + 2) 25 [.int .u32 t.i] = some [Lit.int .u32 t.i] := by simp [Program.keyLits, Try.underlying25, w2]
  have l3 : Try.prog.keyLits (d + 2) 25 [.int .u32 t.o] = some [Lit.int .u32 t.o] := by simp [Program.keyLits, Try.underlying25, w3]
  have l4 : Try.prog.keyLits (d + 2) 3 [.int .i64 t.m] = some [Lit.int .i64 t.m] := by simp [Program.keyLits, Try.underlying3, w4]
  have l5 : Try.prog.keyLits (d + 2) 3 [.int .i64 t.t] = some [Lit.int .i64 t.t] := by simp [Program.keyLits, Try.underlying3, w5]
  have hlen : t.cells.length = 24 := Tm.len h
  have e0 : t.cells.take 19 = t.c.map (.int .u8) := by unfold Tm.cells; rw [List.take_left' (by simp [hl])]
  have e1 : ∀ k, t.cells.drop (19 + k) = [Value.int .u64 t.f, .int .u32 t.i, .int .u32 t.o, .int .i64 t.m, .int .i64 t.t].drop k := fun k => by
    unfold Tm.cells
    rw [← List.drop_drop, List.drop_left' (by simp [hl])]
  have f0 := e1 0
  have f1 := e1 1
  have f2 := e1 2
  have f3 := e1 3
  have f4 := e1 4
  simp only [Nat.reduceAdd, List.drop_zero, List.drop_succ_cons, List.drop] at f0 f1 f2 f3 f4
  unfold Program.keyLits
  simp [Try.underlying27, cT, cA, c1, c2, c3, hlen, e0, f0, f1, f2, f3, f4, hc, l1, l2, l3, l4, l5, Tm.lits]
theorem Tm.lits_inj {t u : Tm} (h : t.Ok) (hu : u.Ok) : t.lits = u.lits ↔ t = u := by
  constructor
  · intro e
    have h1 := h.c
    have h2 := hu.c
    unfold Tm.lits at e
    obtain ⟨ea, eb⟩ := List.append_inj e (by simp [h1, h2])
    have ec : t.c = u.c := (List.map_inj_right (fun a b hab => by cases hab; rfl)).1 ea
    simp only [List.cons.injEq, Lit.int.injEq, true_and, and_true] at eb
    obtain ⟨e1, e2, e3, e4, e5⟩ := eb
    cases t
    cases u
    simp_all
  · rintro rfl; rfl
theorem tm_eql {t u : Tm} (h : t.Ok) (hu : u.Ok) (w : World) : (Op.equalIn 10000 27 (.agg t.arr) (.agg u.arr)).run Try.prog w = .ok (decide (t = u)) w := by
  have hk : Try.prog.keyTypeAt 3 27 = true := by kernel_rfl
  have c24 : Try.prog.cellsOf 27 = 24 := by kernel_rfl
  have hf : ∀ {t : Tm}, t.Ok → (Value.agg t.arr).formed Try.prog 27 = true := fun {t} h => by
    simp [Value.formed, Try.underlying27, Tm.size h, c24]
  obtain ⟨r, hr, hiff⟩ := run_equalIn_deep (P := Try.prog) 9997 3 27 hk w 3 3 (.agg t.arr) (.agg u.arr) t.lits u.lits (hf h) (hf hu) (tm_lits h 0) (tm_lits hu 0)
  rw [Tm.lits_inj h hu] at hiff
  rw [hr]
  congr 1
  rw [Bool.eq_iff_iff, decide_eq_true_eq]
  exact hiff
theorem results_cell_tmp {P : Program} {fn : Func} {p q : Tmp} {ty : TypeId} (h : fn.results = #[.cell p ty, .tmp q]) (tmps : Array Value) (w : World) (g : Nat) (t : TypeId) (cs : Array Value) (fr : Nat × Nat) (d : TypeDesc)
    (hp : tmps.getD p undef = .pointer (some ⟨g, 0, none⟩)) (v : Value) (hq : tmps.getD q undef = v) (hg : w.heap[g]? = some (.cells cs t fr))
    (hu : P.underlying ty = some d) (hd : (match d with | .struct _ | .array _ _ => true | _ => false) = true) (hi : (P.info? ty).map (·.size) = some cs.size) :
    (results fn tmps).run P w = .ok (.tuple #[.agg cs, v]) w := by
  have hp' : tmps[p]?.getD undef = .pointer (some ⟨g, 0, none⟩) := by simpa using hp
  have hq' : tmps[q]?.getD undef = v := by simpa using hq
  simp [results, h, hp', hq', asAddr, run_loadVar_row w g t ty cs fr d hg hu hd hi]
end Go.Proofs.Ytpngnmokagbekaa
