/- A flow's line: what the other end is told, by contract. Conditions: the setting is one. -/
import Derived.Test.YtiknogkopfhoiaaA15
import Derived.Deep.RegionHeld3
namespace Go.Proofs.Ytiknogkopfhoiaa
open Go.RowKit Go.Kb

theorem yieldsIf_load_row {P : Program} {ops : Array Oper} {S : World → Prop} {op : Oper} {a : Act} (hw : Region.wanted op (yielded ops a.tmps) = true) (ty : TypeId) (x : Operand) (ho : op.op = .load ty x)
    (g : Nat) (hx : a.eval x = .pointer (some ⟨g, 0, none⟩)) (t : TypeId) (cs : Array Value) (fr : Nat × Nat) (d : TypeDesc) (hg : ∀ w, S w → w.heap[g]? = some (.cells cs t fr))
    (hu : P.underlying ty = some d) (hd : (match d with | .struct _ | .array _ _ => true | _ => false) = true) (hi : (P.info? ty).map (·.size) = some cs.size) : YieldsIf P ops S op (.agg cs) a :=
  .inl ⟨hw, fun w hw' => by
    unfold execOp
    simp only [ho, hx, Instr.loadAt, Instr.sureAddr, Sem.run_bind, Sem.run_pure, Result.andThen_ok, run_loadVar_row w g t ty cs fr d (hg w hw') hu hd hi]⟩
theorem wpList_build_eq {P : Program} {ops : Array Oper} {rest : List Oper} {o : Oper} {a : Act} {w : World} {Q : Exit → Act → World → Prop} (hg : o.guard = none) (t : TypeId) (parts : Array (Nat × Operand)) (ho : o.op = .build t parts) {L : Array Value}
    (hf : P.built t (parts.map fun (i, x) => (i, a.eval x)).toList = some L) (h : wpList P ops Q rest (a.put o.dst (.agg L)) w) : wpList P ops Q (o :: rest) a w := by
  refine wpList_build hg t parts ho (by rw [hf]; rfl) ?_
  rw [hf]
  exact h
def tellL (t : Tm) (op : Int) : List Int := if (charL t op).2 then [(charL t op).1] else []
theorem tellL_eq (t : Tm) (op : Int) : tellL t op = if (charL t op).2 then [(charL t op).1] else [] := rfl
theorem Mod.of_own {w w' : World} {g : Nat} (h : Mod (fun k => (Value.slice none 0 0).ownBlock = some k) w w') : Mod (fun k => k = g) w w' := h.mono fun k _ hk => by simp [Value.ownBlock] at hk
set_option maxHeartbeats 400000 in
theorem tell_any {g : Nat} {a b : Bool} (t : Tm) (op : Int) (w : World) (ht : t.Ok) (h : Blk w g 64 (lineA a b t.arr (.slice none 0 0))) :
    Calls Try.prog 35 #[.pointer (some ⟨g, 0, none⟩), .int .i64 op] w fun e w' => e = .returned (.tuple #[]) ∧ ∃ A c, Blk w' g 64 (lineA a b t.arr (.slice A (tellL t op).length c)) ∧ RI .u8 w' (.slice A (tellL t op).length c) (tellL t op) ∧ (∀ k, (Value.slice A (tellL t op).length c).ownBlock = some k → w.heap.size ≤ k) ∧ Mod (fun k => k = g) w w' := by
  have hn := t.size ht
  have hc := fun w' => char_any t op w' ht
  rw [tellL_eq]
  generalize (charL t op).1 = x at *
  generalize (charL t op).2 = f at *
  generalize t.arr = cs at *
  have hm := lineA_mid h
  have hi : (Try.prog.info? 26).map (·.size) = some cs.toList.length := by rw [Array.length_toList, hn]; kernel_rfl
  have hc26 := h.cell 26
  rw [lineA_26 hn] at hc26
  have hB := Lib.hid h
  have hglt := h.lt
  clear h ht
  go_enter Try.func35, Try.ntmps35
  go_wp2_with (refine wpList_load_mid rfl 26 _ rfl g 2 rfl cs.toList _ hm Try.underlying26 rfl hi ?_; simp only [Array.toArray_toList])
  refine (hc _).mono ?_
  rintro e w1 ⟨rfl, E1⟩
  have hB1 := hB.out.ext E1
  have M1 : Mod (fun k => k = g) w w1 := Mod.of_ext E1
  cases f
  · go_wp2
    go_end0
    exact ⟨rfl, none, 0, hB1, RdN.nil _ _, fun k hk => by simp [Value.ownBlock] at hk, M1⟩
  · have c1 := hB1.cell 26
    rw [lineA_26 hn] at c1
    have hlt1 := hB1.lt
    go_wp2_with (at_builtin; refine wpList_app (e := Ub) (base := w1.heap.size) (B := fun _ => False) (A := fun _ => False) rfl (.tmp 20) (.tmp 22) rfl Try.underlying38 info_u8 rfl (OwnS.nil _ _ _ _ _) rfl (RI.y (RI.lit .u8 [x] _ rfl (by simp))) rfl (fun _ _ h => h.elim) (N := 1) rfl (by simp [maxLen]) (by omega) (by simp) ?_; intro A2 c2 w2 o2 M2 E2; have hB2 := Blk.mod (hB1.alloc _) M2 (by simp [Value.ownBlock]); have k2 := hB2.frozen 26; have k3 := hB2.cell 26; rw [lineA_26 hn] at k3)
    have hB3 := hB2.set_ 26 (.slice A2 1 c2)
    rw [lineA_set26 hn] at hB3
    go_end0
    refine ⟨rfl, A2, c2, hB3, ?_, fun k hk => Nat.le_trans E1.size (o2.row k hk).1, ((M1.alloc _).trans (Mod.of_own M2)).set1 _⟩
    exact (o2.mod (S := fun k => k = g) ((Mod.refl _ _).set1 _) (fun k hk he => by have := (o2.row k hk).1; omega) (fun _ _ hk => hk.elim)).rdT.ri

theorem holdIn_any {g : Nat} {a b : Bool} (t : Tm) (w : World) (ht : t.Ok) (h : Blk w g 64 (lineA a b t.arr (.slice none 0 0))) :
    Calls Try.prog 26 #[.pointer (some ⟨g, 0, none⟩)] w fun e w' => e = .returned (.tuple #[]) ∧ ∃ A c, Blk w' g 64 (lineA a b t.arr (.slice A (tellL t 9).length c)) ∧ RI .u8 w' (.slice A (tellL t 9).length c) (tellL t 9) ∧ (∀ k, (Value.slice A (tellL t 9).length c).ownBlock = some k → w.heap.size ≤ k) ∧ Mod (fun k => k = g) w w' := by
  have hT := tell_any (a := a) (b := b) t 9 w ht h
  clear h ht
  generalize tellL t 9 = l at *
  generalize t.arr = cs at *
  go_enter Try.func26, Try.ntmps26
  go_wp2_with fail
  refine hT.mono ?_
  rintro e w1 ⟨rfl, A, c, h1, h2, h4, h3⟩
  have H2 := Lib.hid h2
  clear h2
  go_wp2
  go_end0
  exact ⟨rfl, A, c, h1, H2.out, h4, h3⟩
theorem goOnIn_any {g : Nat} {a b : Bool} (t : Tm) (w : World) (ht : t.Ok) (h : Blk w g 64 (lineA a b t.arr (.slice none 0 0))) :
    Calls Try.prog 27 #[.pointer (some ⟨g, 0, none⟩)] w fun e w' => e = .returned (.tuple #[]) ∧ ∃ A c, Blk w' g 64 (lineA a b t.arr (.slice A (tellL t 8).length c)) ∧ RI .u8 w' (.slice A (tellL t 8).length c) (tellL t 8) ∧ (∀ k, (Value.slice A (tellL t 8).length c).ownBlock = some k → w.heap.size ≤ k) ∧ Mod (fun k => k = g) w w' := by
  have hT := tell_any (a := a) (b := b) t 8 w ht h
  clear h ht
  generalize tellL t 8 = l at *
  generalize t.arr = cs at *
  go_enter Try.func27, Try.ntmps27
  go_wp2_with fail
  refine hT.mono ?_
  rintro e w1 ⟨rfl, A, c, h1, h2, h4, h3⟩
  have H2 := Lib.hid h2
  clear h2
  go_wp2
  go_end0
  exact ⟨rfl, A, c, h1, H2.out, h4, h3⟩
theorem wishes_any (w : World) : Calls Try.prog 29 #[] w fun e w' => e = .returned (.agg #[.func (.func 20) #[] #[], .func (.func 22) #[] #[], .func (.func 23) #[] #[], .func (.func 26) #[] #[], .func (.func 27) #[] #[]]) ∧ Ext w w' := by
  have hi : (Try.prog.info? 67).map (·.size) = some 5 := by kernel_rfl
  go_enter Try.func29, Try.ntmps29
  go_wp2_with (refine wpList_store_A rfl 67 _ _ rfl w.heap.size _ rfl rfl 67 _ (show Blk _ _ _ _ from Blk.at_ _ _ (by simp)) hi rfl (by simp [Value.oneCell']) ?_; intro w2 HB E2; have E2 := E2 w.heap.size w (by repeat (first | with_reducible exact Ext.refl _ | refine Ext.drewN ?_ _ | refine Ext.drew ?_ | refine Ext.alloc ?_ _ | assumption | (refine Below.trans ?_ (by assumption)) | (refine Ext.trans ?_ (by assumption)) | (refine Below.trans ?_ (Below.mono (by assumption) (by omega))))) (Nat.le_refl _))
  refine bodyPost_ret_by (results_cell_row Try.results29 _ _ w.heap.size 67 _ _ _ rfl HB Try.underlying67 rfl hi) rfl ?_
  exact ⟨rfl, E2⟩
end Go.Proofs.Ytiknogkopfhoiaa
