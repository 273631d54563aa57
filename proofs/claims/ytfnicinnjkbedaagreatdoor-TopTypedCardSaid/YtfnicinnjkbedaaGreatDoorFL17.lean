/- Written by chain.py of +MB17 +ME17 +Row A15@Fl B15[-wishes_any]@Fl C15@Fl D15@Fl. No condition. -/
import Derived.Test.YtfnicinnjkbedaaGreatDoorMB17
import Derived.Test.YtfnicinnjkbedaaGreatDoorME17
import Derived.Test.YtfnicinnjkbedaaGreatDoorRow
import Derived.Deep.RegionHeld3
namespace Go.Proofs.YtfnicinnjkbedaaGreatDoor.Fl
set_option maxRecDepth 100000
open Go.RowKit Go.Kb

abbrev Ub : Rep Int := Rep.int .u8
theorem info_u8 : (Tryz.prog.info? 5).map (fun i => (i.zero, i.size, i.bytes)) = some (some (.int .u8 0), Ub.size, 1) := by kernel_rfl
/-- a line's cells: stopped, held, the setting, what the other end is told -/
def lineA (a b : Bool) (cs : Array Value) (o : Value) : Array Value := #[.bool a, .bool b] ++ cs ++ #[o]
theorem built_line (a b : Bool) (cs : Array Value) (h : cs.size = 24) : Tryz.prog.built 144 [(0, .agg #[.bool a, .bool b]), (1, .agg cs)] = some (lineA a b cs (.slice none 0 0)) := by
  rw [← arr24 h]
  kernel_rfl
theorem lineA_size {a b : Bool} {cs : Array Value} {o : Value} (h : cs.size = 24) : (lineA a b cs o).size = 27 := by simp [lineA, h]
theorem lineA_0 (a b : Bool) (cs : Array Value) (o : Value) : (lineA a b cs o)[0]? = some (.bool a) := by
  simp [lineA, Array.getElem?_append]
theorem lineA_1 (a b : Bool) (cs : Array Value) (o : Value) : (lineA a b cs o)[1]? = some (.bool b) := by
  simp [lineA, Array.getElem?_append]
theorem lineA_26 {a b : Bool} {cs : Array Value} {o : Value} (h : cs.size = 24) : (lineA a b cs o)[26]? = some o := by
  simp only [lineA]
  rw [Array.getElem?_append_right (by simp; omega)]
  simp [h]
theorem lineA_set0 (a b : Bool) (cs : Array Value) (o : Value) (x : Bool) : (lineA a b cs o).setIfInBounds 0 (.bool x) = lineA x b cs o := by
  apply Array.ext'
  simp [lineA]
theorem lineA_set1 (a b : Bool) (cs : Array Value) (o : Value) (x : Bool) : (lineA a b cs o).setIfInBounds 1 (.bool x) = lineA a x cs o := by
  apply Array.ext'
  simp [lineA]
theorem lineA_set26 {a b : Bool} {cs : Array Value} {o : Value} (h : cs.size = 24) (x : Value) : (lineA a b cs o).setIfInBounds 26 x = lineA a b cs x := by
  apply Array.ext'
  simp [lineA, h]
theorem lineA_mid {a b : Bool} {cs : Array Value} {o : Value} {w : World} {g : Nat} (hB : Blk w g 144 (lineA a b cs o)) : w.rangeAt g 2 cs.toList := by
  intro j v hj
  have hj' : cs[j]? = some v := by simpa using hj
  have hlt : j < cs.size := (Array.getElem?_eq_some_iff.1 hj').1
  rw [hB.cell (2 + j)]
  simp only [lineA]
  rw [Array.getElem?_append_left (by simp; omega), Array.getElem?_append_right (by simp)]
  simpa using hj'
theorem Ext.modNew {a w w' : World} {g : Nat} (h : Ext a w) (hM : Mod (fun k => k = g) w w') (hg : a.heap.size ≤ g) : Ext a w' := Mod.toExt h hM fun k hk he => by omega

theorem stop_any {g : Nat} {a b : Bool} {cs : Array Value} {o : Value} (w : World) (h : Blk w g 144 (lineA a b cs o)) :
    Calls Tryz.prog 87 #[.pointer (some ⟨g, 0, none⟩)] w fun e w' => e = .returned (.tuple #[]) ∧ Blk w' g 144 (lineA true b cs o) ∧ Mod (fun k => k = g) w w' := by
  have hc := h.cell 0
  have hf := h.frozen 0
  rw [lineA_0] at hc
  have hB := Lib.hid (h.set_ 0 (.bool true))
  rw [lineA_set0] at hB
  clear h
  go_enter Tryz.func87, Tryz.ntmps87
  go_wp2
  go_end0
  exact ⟨rfl, hB.out, (by repeat (first | with_reducible exact Mod.refl _ _ | refine Mod.drew ?_ | refine Mod.drewN ?_ _ | refine Mod.set1 ?_ _))⟩
theorem start_any {g : Nat} {a b : Bool} {cs : Array Value} {o : Value} (w : World) (h : Blk w g 144 (lineA a b cs o)) :
    Calls Tryz.prog 88 #[.pointer (some ⟨g, 0, none⟩)] w fun e w' => e = .returned (.tuple #[]) ∧ Blk w' g 144 (lineA false b cs o) ∧ Mod (fun k => k = g) w w' := by
  have hc := h.cell 0
  have hf := h.frozen 0
  rw [lineA_0] at hc
  have hB := Lib.hid (h.set_ 0 (.bool false))
  rw [lineA_set0] at hB
  clear h
  go_enter Tryz.func88, Tryz.ntmps88
  go_wp2
  go_end0
  exact ⟨rfl, hB.out, (by repeat (first | with_reducible exact Mod.refl _ _ | refine Mod.drew ?_ | refine Mod.drewN ?_ _ | refine Mod.set1 ?_ _))⟩
theorem nothing_any {g : Nat} {a b : Bool} {cs : Array Value} {o : Value} (w : World) (h : Blk w g 144 (lineA a b cs o)) :
    Calls Tryz.prog 85 #[.pointer (some ⟨g, 0, none⟩)] w fun e w' => e = .returned (.tuple #[]) ∧ Blk w' g 144 (lineA a b cs o) ∧ Mod (fun k => k = g) w w' := by
  have hB := Lib.hid h
  clear h
  go_enter Tryz.func85, Tryz.ntmps85
  go_wp2
  go_end0
  exact ⟨rfl, hB.out, (by repeat (first | with_reducible exact Mod.refl _ _ | refine Mod.drew ?_ | refine Mod.drewN ?_ _ | refine Mod.set1 ?_ _))⟩
theorem turn_any {g : Nat} {a b : Bool} {cs : Array Value} {o : Value} (w : World) (h : Blk w g 144 (lineA a b cs o)) :
    Calls Tryz.prog 86 #[.pointer (some ⟨g, 0, none⟩)] w fun e w' => e = .returned (.tuple #[]) ∧ Blk w' g 144 (lineA (!a) b cs o) ∧ Mod (fun k => k = g) w w' := by
  have hc := h.cell 0
  have hf := h.frozen 0
  rw [lineA_0] at hc
  have hB := Lib.hid (h.set_ 0 (.bool (!a)))
  rw [lineA_set0] at hB
  clear h
  go_enter Tryz.func86, Tryz.ntmps86
  go_wp2
  go_end0
  exact ⟨rfl, hB.out, (by repeat (first | with_reducible exact Mod.refl _ _ | refine Mod.drew ?_ | refine Mod.drewN ?_ _ | refine Mod.set1 ?_ _))⟩
end Go.Proofs.YtfnicinnjkbedaaGreatDoor.Fl
namespace Go.Proofs.YtfnicinnjkbedaaGreatDoor.Fl
set_option maxRecDepth 100000
open Go.RowKit Go.Kb

theorem yieldsIf_load_row {P : Program} {ops : Array Oper} {S : World → Prop} {op : Oper} {a : Act} (hw : Region.wanted op (yielded ops a.tmps) = true) (ty : TypeId) (x : Operand) (ho : op.op = .load ty x)
    (g : Nat) (hx : a.eval x = .pointer (some ⟨g, 0, none⟩)) (t : TypeId) (cs : Array Value) (fr : Nat × Nat) (d : TypeDesc) (hg : ∀ w, S w → w.heap[g]? = some (.cells cs t fr))
    (hu : P.underlying ty = some d) (hd : (match d with | .struct _ | .array _ _ => true | _ => false) = true) (hi : (P.info? ty).map (·.size) = some cs.size) : YieldsIf P ops S op (.agg cs) a :=
  .inl ⟨hw, fun w hw' => by
    unfold execOp
    simp only [ho, hx, Instr.loadAt, Instr.sureAddr, Sem.run_bind, Sem.run_pure, Result.andThen_ok, run_loadVar_row w g t ty cs fr d (hg w hw') hu hd hi]⟩
theorem wpList_build_eq {P : Program} {ops : Array Oper} {rest : List Oper} {o : Oper} {a : Act} {w : World} {Q : Exit → Act → World → Prop} (hg : o.guard = none) (t : TypeId) (parts : Array (Nat × Operand)) (ho : o.op = .build t parts) {L : Array Value}
    (hf : P.built t (parts.map fun (i, x) => (i, a.eval x)).toList = some L) (h : wpList P ops Q rest (a.put o.dst (.agg L)) w) : wpList P ops Q (o :: rest) a w := by
  refine wpList_build hg t parts ho (by rw [hf]; rfl) ?_
  rw [hf]
  exact h
def tellL (t : Tm) (op : Int) : List Int := if (charL t op).2 then [(charL t op).1] else []
theorem tellL_eq (t : Tm) (op : Int) : tellL t op = if (charL t op).2 then [(charL t op).1] else [] := rfl
theorem Mod.of_own {w w' : World} {g : Nat} (h : Mod (fun k => (Value.slice none 0 0).ownBlock = some k) w w') : Mod (fun k => k = g) w w' := h.mono fun k _ hk => by simp [Value.ownBlock] at hk
set_option maxHeartbeats 400000 in
theorem tell_any {g : Nat} {a b : Bool} (t : Tm) (op : Int) (w : World) (ht : t.Ok) (h : Blk w g 144 (lineA a b t.arr (.slice none 0 0))) :
    Calls Tryz.prog 134 #[.pointer (some ⟨g, 0, none⟩), .int .i64 op] w fun e w' => e = .returned (.tuple #[]) ∧ ∃ A c, Blk w' g 144 (lineA a b t.arr (.slice A (tellL t op).length c)) ∧ RI .u8 w' (.slice A (tellL t op).length c) (tellL t op) ∧ (∀ k, (Value.slice A (tellL t op).length c).ownBlock = some k → w.heap.size ≤ k) ∧ Mod (fun k => k = g) w w' := by
  have hn := t.size ht
  have hc := fun w' => char_any t op w' ht
  rw [tellL_eq]
  generalize (charL t op).1 = x at *
  generalize (charL t op).2 = f at *
  generalize t.arr = cs at *
  have hm := lineA_mid h
  have hi : (Tryz.prog.info? 26).map (·.size) = some cs.toList.length := by rw [Array.length_toList, hn]; kernel_rfl
  have hc26 := h.cell 26
  rw [lineA_26 hn] at hc26
  have hB := Lib.hid h
  have hglt := h.lt
  clear h ht
  go_enter Tryz.func134, Tryz.ntmps134
  go_wp2_with (refine wpList_load_mid rfl 26 _ rfl g 2 rfl cs.toList _ hm Tryz.underlying26 rfl hi ?_; simp only [Array.toArray_toList])
  refine (hc _).mono ?_
  rintro e w1 ⟨rfl, E1⟩
  have hB1 := hB.out.ext E1
  have M1 : Mod (fun k => k = g) w w1 := Mod.of_ext E1
  cases f
  · go_wp2
    go_end0
    exact ⟨rfl, none, 0, hB1, RdN.nil _ _, fun k hk => by simp [Value.ownBlock] at hk, M1⟩
  · have c1 := hB1.cell 26
    rw [lineA_26 hn] at c1
    have hlt1 := hB1.lt
    go_wp2_with (at_builtin; refine wpList_app (e := Ub) (base := w1.heap.size) (B := fun _ => False) (A := fun _ => False) rfl (.tmp 20) (.tmp 22) rfl Tryz.underlying27 info_u8 rfl (OwnS.nil _ _ _ _ _) rfl (RI.y (RI.lit .u8 [x] _ rfl (by simp))) rfl (fun _ _ h => h.elim) (N := 1) rfl (by simp [maxLen]) (by omega) (by simp) ?_; intro A2 c2 w2 o2 M2 E2; have hB2 := Blk.mod (hB1.alloc _) M2 (by simp [Value.ownBlock]); have k2 := hB2.frozen 26; have k3 := hB2.cell 26; rw [lineA_26 hn] at k3)
    have hB3 := hB2.set_ 26 (.slice A2 1 c2)
    rw [lineA_set26 hn] at hB3
    go_end0
    refine ⟨rfl, A2, c2, hB3, ?_, fun k hk => Nat.le_trans E1.size (o2.row k hk).1, ((M1.alloc _).trans (Mod.of_own M2)).set1 _⟩
    exact (o2.mod (S := fun k => k = g) ((Mod.refl _ _).set1 _) (fun k hk he => by have := (o2.row k hk).1; omega) (fun _ _ hk => hk.elim)).rdT.ri

theorem holdIn_any {g : Nat} {a b : Bool} (t : Tm) (w : World) (ht : t.Ok) (h : Blk w g 144 (lineA a b t.arr (.slice none 0 0))) :
    Calls Tryz.prog 111 #[.pointer (some ⟨g, 0, none⟩)] w fun e w' => e = .returned (.tuple #[]) ∧ ∃ A c, Blk w' g 144 (lineA a b t.arr (.slice A (tellL t 9).length c)) ∧ RI .u8 w' (.slice A (tellL t 9).length c) (tellL t 9) ∧ (∀ k, (Value.slice A (tellL t 9).length c).ownBlock = some k → w.heap.size ≤ k) ∧ Mod (fun k => k = g) w w' := by
  have hT := tell_any (a := a) (b := b) t 9 w ht h
  clear h ht
  generalize tellL t 9 = l at *
  generalize t.arr = cs at *
  go_enter Tryz.func111, Tryz.ntmps111
  go_wp2_with fail
  refine hT.mono ?_
  rintro e w1 ⟨rfl, A, c, h1, h2, h4, h3⟩
  have H2 := Lib.hid h2
  clear h2
  go_wp2
  go_end0
  exact ⟨rfl, A, c, h1, H2.out, h4, h3⟩
theorem goOnIn_any {g : Nat} {a b : Bool} (t : Tm) (w : World) (ht : t.Ok) (h : Blk w g 144 (lineA a b t.arr (.slice none 0 0))) :
    Calls Tryz.prog 112 #[.pointer (some ⟨g, 0, none⟩)] w fun e w' => e = .returned (.tuple #[]) ∧ ∃ A c, Blk w' g 144 (lineA a b t.arr (.slice A (tellL t 8).length c)) ∧ RI .u8 w' (.slice A (tellL t 8).length c) (tellL t 8) ∧ (∀ k, (Value.slice A (tellL t 8).length c).ownBlock = some k → w.heap.size ≤ k) ∧ Mod (fun k => k = g) w w' := by
  have hT := tell_any (a := a) (b := b) t 8 w ht h
  clear h ht
  generalize tellL t 8 = l at *
  generalize t.arr = cs at *
  go_enter Tryz.func112, Tryz.ntmps112
  go_wp2_with fail
  refine hT.mono ?_
  rintro e w1 ⟨rfl, A, c, h1, h2, h4, h3⟩
  have H2 := Lib.hid h2
  clear h2
  go_wp2
  go_end0
  exact ⟨rfl, A, c, h1, H2.out, h4, h3⟩
end Go.Proofs.YtfnicinnjkbedaaGreatDoor.Fl
namespace Go.Proofs.YtfnicinnjkbedaaGreatDoor.Fl
set_option maxRecDepth 100000
open Go.RowKit Go.Kb

/-- stopped, held, used up -/
def typedL (t : Tm) (a b : Bool) (c : Int) : Bool × Bool × Bool :=
  if hasL t 38 then
    if isL t 8 c then (if isL t 9 c then !a else false, b, true)
    else if isL t 9 c then (true, b, true) else (if hasL t 39 then false else a, b, false)
  else (a, b, false)
theorem typedL_eq (t : Tm) (a b : Bool) (c : Int) : typedL t a b c = if hasL t 38 then
    if isL t 8 c then (if isL t 9 c then !a else false, b, true)
    else if isL t 9 c then (true, b, true) else (if hasL t 39 then false else a, b, false)
  else (a, b, false) := rfl
set_option maxHeartbeats 800000 in
theorem typed_any (t : Tm) (a b : Bool) (c : Int) (w : World) (ht : t.Ok) :
    Calls Tryz.prog 44 #[.agg t.arr, .agg #[.bool a, .bool b], .int .u8 c] w fun e w' => e = .returned (.tuple #[.agg #[.bool (typedL t a b c).1, .bool (typedL t a b c).2.1], .bool (typedL t a b c).2.2]) ∧ Ext w w' := by
  have hn := t.size ht
  have h38 := fun w' => has_any t 38 w' ht
  have h39 := fun w' => has_any t 39 w' ht
  have h8 := fun w' => is_any t 8 c w' ht
  have h9 := fun w' => is_any t 9 c w' ht
  rw [typedL_eq]
  generalize hasL t 38 = x at *
  generalize hasL t 39 = y at *
  generalize isL t 8 c = p at *
  generalize isL t 9 c = q at *
  generalize t.arr = cs at *
  clear ht
  have hi : (Tryz.prog.info? 26).map (·.size) = some cs.size := by rw [hn]; kernel_rfl
  have hbl := Lib.hid fun a b => built_line a b cs hn
  have hT := Lib.hid (((Blk.new w 26 cs).alloc (.cells #[.bool a, .bool b] 80)).alloc (.cells #[.bool false, .bool false] 80))
  have hF := Lib.hid ((Blk.at_ (w := w.alloc (.cells cs 26)) (B := w.heap.size + 1) 80 #[.bool a, .bool b] (by simp)).alloc (.cells #[.bool false, .bool false] 80))
  have hR := Lib.hid (Blk.at_ (w := (w.alloc (.cells cs 26)).alloc (.cells #[.bool a, .bool b] 80)) (B := w.heap.size + 2) 80 #[.bool false, .bool false] (by simp))
  cases x
  · go_enter Tryz.func44, Tryz.ntmps44
    go_wp2_with (first | (refine wpList_load_row rfl 26 _ rfl _ rfl 26 _ _ _ hT.out Tryz.underlying26 rfl hi ?_))
    refine (h38 _).mono ?_
    rintro e w1 ⟨rfl, E1⟩
    obtain ⟨f0, f1, f2, f3⟩ := (hF.out.ext E1).two
    obtain ⟨r0, r1, r2, r3⟩ := (hR.out.ext E1).two
    go_wp2
    have hP := ((hR.out.ext E1).put2 (.bool a) (.bool b)).two
    refine bodyPost_ret (v := .tuple #[.agg #[.bool a, .bool b], .bool false]) (by simp [results, Tryz.results44, go_sem, hP.1, hP.2.1]) rfl ?_
    have E01 : Ext w w1 := (by repeat (first | with_reducible exact Ext.refl _ | refine Ext.drewN ?_ _ | refine Ext.drew ?_ | refine Ext.alloc ?_ _ | assumption | (refine Below.trans ?_ (by assumption)) | (refine Ext.trans ?_ (by assumption)) | (refine Below.trans ?_ (Below.mono (by assumption) (by omega)))))
    exact ⟨rfl, Below.setCell (Below.setCell E01 (by simp; omega) _) (by simp; omega) _⟩
  · go_enter Tryz.func44, Tryz.ntmps44
    go_wp2_with (first | (refine wpList_load_row rfl 26 _ rfl _ rfl 26 _ _ _ hT.out Tryz.underlying26 rfl hi ?_))
    refine (h38 _).mono ?_
    rintro e w1 ⟨rfl, E1⟩
    obtain ⟨f0, f1, f2, f3⟩ := (hF.out.ext E1).two
    have hT1 := Lib.hid (hT.out.ext E1)
    have hR1 := Lib.hid (hR.out.ext E1)
    have E01 : Ext w w1 := (by repeat (first | with_reducible exact Ext.refl _ | refine Ext.drewN ?_ _ | refine Ext.drew ?_ | refine Ext.alloc ?_ _ | assumption | (refine Below.trans ?_ (by assumption)) | (refine Ext.trans ?_ (by assumption)) | (refine Below.trans ?_ (Below.mono (by assumption) (by omega)))))
    have hg : w.heap.size + 1 + 1 < w1.heap.size := by have := E1.size; simp at this; omega
    clear hF hT hR
    go_wp2_with (first
      | (refine wpList_load_row rfl 26 _ rfl _ rfl 26 _ _ _ hT1.out Tryz.underlying26 rfl hi ?_)
      | (refine wpList_build_eq rfl 144 _ rfl (L := lineA a b cs (.slice none 0 0)) (by (try simp [go_sem]); exact hbl.out a b) ?_))
    have hL2 := Lib.hid (Blk.new w1 144 (lineA a b cs (.slice none 0 0)))
    have hT2 := Lib.hid (hT1.out.alloc (.cells (lineA a b cs (.slice none 0 0)) 144))
    have hR2 := Lib.hid (hR1.out.alloc (.cells (lineA a b cs (.slice none 0 0)) 144))
    have E02 : Ext w (w1.alloc (.cells (lineA a b cs (.slice none 0 0)) 144)) := E01.alloc _
    generalize hg1 : w1.heap.size = g at hL2 hg ⊢
    generalize (w1.alloc (.cells (lineA a b cs (.slice none 0 0)) 144)) = w2 at hL2 hT2 hR2 E02 ⊢
    clear f0 f1 f2 f3 E1 E01 hT1 hR1 hg1
    refine wp_region_held_drew (S := fun w' => Ext w2 w') (by kernel_rfl) (by repeat (first | with_reducible exact Ext.refl _ | refine Ext.drewN ?_ _ | refine Ext.drew ?_ | refine Ext.alloc ?_ _ | assumption | (refine Below.trans ?_ (by assumption)) | (refine Ext.trans ?_ (by assumption)) | (refine Below.trans ?_ (Below.mono (by assumption) (by omega))))) (fun hHeld => ?_)
    (refine wpAnyH_take (i := 0) (v := .agg cs) rfl (by kernel_rfl) (by kernel_rfl) (by kernel_rfl) (fun _ _ _ h => h) (yieldsIf_load_row (by rfl) 26 _ rfl _ rfl 26 cs _ _ (fun w' hw' => Blk.ext hT2.out hw') Tryz.underlying26 rfl hi) (by assumption) ?_; (try simp only [Act.put]); (try simp only [List.getElem_toArray]); (try simp only [List.getElem_cons_succ]); (try simp only [List.getElem_cons_zero]); (try simp only [List.setIfInBounds_toArray]); (try simp only [List.set_cons_succ]); (try simp only [List.set_cons_zero]))
    (refine wpAnyH_take (i := 1) (v := ?_) rfl (by kernel_rfl) (by kernel_rfl) (by kernel_rfl) (fun _ _ _ h => h) (Or.inl ⟨by rfl, ?_⟩) (by assumption) ?_; rotate_left; focus (intro w' hSw; go_simp; try with_reducible rfl); (try simp only [Act.put]); (try simp only [List.getElem_toArray]); (try simp only [List.getElem_cons_succ]); (try simp only [List.getElem_cons_zero]); (try simp only [List.setIfInBounds_toArray]); (try simp only [List.set_cons_succ]); (try simp only [List.set_cons_zero]))
    (refine wpAnyH_take (i := 3) (v := .agg cs) rfl (by kernel_rfl) (by kernel_rfl) (by kernel_rfl) (fun _ _ _ h => h) (yieldsIf_load_row (by rfl) 26 _ rfl _ rfl 26 cs _ _ (fun w' hw' => Blk.ext hT2.out hw') Tryz.underlying26 rfl hi) (by assumption) ?_; (try simp only [Act.put]); (try simp only [List.getElem_toArray]); (try simp only [List.getElem_cons_succ]); (try simp only [List.getElem_cons_zero]); (try simp only [List.setIfInBounds_toArray]); (try simp only [List.set_cons_succ]); (try simp only [List.set_cons_zero]))
    (refine wpAnyH_take (i := 4) (v := ?_) rfl (by kernel_rfl) (by kernel_rfl) (by kernel_rfl) (fun _ _ _ h => h) (Or.inl ⟨by rfl, ?_⟩) (by assumption) ?_; rotate_left; focus (intro w' hSw; go_simp; try with_reducible rfl); (try simp only [Act.put]); (try simp only [List.getElem_toArray]); (try simp only [List.getElem_cons_succ]); (try simp only [List.getElem_cons_zero]); (try simp only [List.setIfInBounds_toArray]); (try simp only [List.set_cons_succ]); (try simp only [List.set_cons_zero]))
    (refine wpAnyH_ready (rs := [2]) (by kernel_rfl) (by simp) ?_; refine AllReadyH.cons rfl (fun K hK => ?_) AllReadyH.nil; go_simp; go_at_call 9; refine (h8 _).mono ?_; rintro e w3 ⟨rfl, E3⟩; (try dsimp only); refine hK.out _ _ (by repeat (first | with_reducible exact Ext.refl _ | refine Ext.drewN ?_ _ | refine Ext.drew ?_ | refine Ext.alloc ?_ _ | assumption | (refine Below.trans ?_ (by assumption)) | (refine Ext.trans ?_ (by assumption)) | (refine Below.trans ?_ (Below.mono (by assumption) (by omega))))) (fun hHeld => ?_); clear hK K; (try simp only [Act.put]); (try simp only [List.getElem_toArray]); (try simp only [List.getElem_cons_succ]); (try simp only [List.getElem_cons_zero]); (try simp only [List.setIfInBounds_toArray]); (try simp only [List.set_cons_succ]); (try simp only [List.set_cons_zero]))
    (refine wpAnyH_ready (rs := [5]) (by kernel_rfl) (by simp) ?_; refine AllReadyH.cons rfl (fun K hK => ?_) AllReadyH.nil; go_simp; go_at_call 9; refine (h9 _).mono ?_; rintro e w4 ⟨rfl, E4⟩; (try dsimp only); refine hK.out _ _ (by repeat (first | with_reducible exact Ext.refl _ | refine Ext.drewN ?_ _ | refine Ext.drew ?_ | refine Ext.alloc ?_ _ | assumption | (refine Below.trans ?_ (by assumption)) | (refine Ext.trans ?_ (by assumption)) | (refine Below.trans ?_ (Below.mono (by assumption) (by omega))))) (fun hHeld => ?_); clear hK K; (try simp only [Act.put]); (try simp only [List.getElem_toArray]); (try simp only [List.getElem_cons_succ]); (try simp only [List.getElem_cons_zero]); (try simp only [List.setIfInBounds_toArray]); (try simp only [List.set_cons_succ]); (try simp only [List.set_cons_zero]))
    (refine wpAnyH_take (i := 6) (v := ?_) rfl (by kernel_rfl) (by kernel_rfl) (by kernel_rfl) (fun _ _ _ h => h) (Or.inl ⟨by rfl, ?_⟩) (by assumption) ?_; rotate_left; focus (intro w' hSw; go_simp; try with_reducible rfl); (try simp only [Act.put]); (try simp only [List.getElem_toArray]); (try simp only [List.getElem_cons_succ]); (try simp only [List.getElem_cons_zero]); (try simp only [List.setIfInBounds_toArray]); (try simp only [List.set_cons_succ]); (try simp only [List.set_cons_zero]))
    (refine wpAnyH_take (i := 7) (v := ?_) rfl (by kernel_rfl) (by kernel_rfl) (by kernel_rfl) (fun _ _ _ h => h) (Or.inl ⟨by rfl, ?_⟩) (by assumption) ?_; rotate_left; focus (intro w' hSw; go_simp; try with_reducible rfl); (try simp only [Act.put]); (try simp only [List.getElem_toArray]); (try simp only [List.getElem_cons_succ]); (try simp only [List.getElem_cons_zero]); (try simp only [List.setIfInBounds_toArray]); (try simp only [List.set_cons_succ]); (try simp only [List.set_cons_zero]))
    refine wpAnyH_done (by kernel_rfl) ?_ _
    have E24 : Ext w2 w4 := (by repeat (first | with_reducible exact Ext.refl _ | refine Ext.drewN ?_ _ | refine Ext.drew ?_ | refine Ext.alloc ?_ _ | assumption | (refine Below.trans ?_ (by assumption)) | (refine Ext.trans ?_ (by assumption)) | (refine Below.trans ?_ (Below.mono (by assumption) (by omega)))))
    have hL4 := Lib.hid (hL2.out.ext E24)
    have hT4 := Lib.hid (hT2.out.ext E24)
    have hR4 := Lib.hid (hR2.out.ext E24)
    have E04 : Ext w w4 := E02.trans E24
    have hg0 : w.heap.size ≤ g := by omega
    clear hL2 hT2 hR2 E3 E4 E24 E02 hHeld
    cases p
    · cases q
      · cases y
        ·
          go_wp2_with (first
            | ((go_at_call 85; refine (nothing_any _ (hL4.out.ext E45)).mono ?_; rintro e w5 ⟨rfl, hL5, M5⟩); have hR5 := (hR4.out.ext E45).mod M5 (by omega); have l0 := hL5.cell 0; rw [lineA_0] at l0; have l1 := hL5.cell 1; rw [lineA_1] at l1; obtain ⟨r0, r1, r2, r3⟩ := hR5.two)
            | (refine wpList_load_row rfl 26 _ rfl _ rfl 26 _ _ _ hT4.out Tryz.underlying26 rfl hi ?_)
            | ((go_at_call 84; refine (h39 _).mono ?_; rintro e w45 ⟨rfl, E45⟩)))
          have hP := (hR5.put2 (.bool a) (.bool b)).two
          refine bodyPost_ret (v := .tuple #[.agg #[.bool a, .bool b], .bool false]) (by simp [results, Tryz.results44, go_sem, hP.1, hP.2.1]) rfl ?_
          have E5 := Ext.modNew (E04.trans E45) M5 hg0
          exact ⟨by simp, Below.setCell (Below.setCell E5 (by simp; omega) _) (by simp; omega) _⟩
        ·
          go_wp2_with (first
            | ((go_at_call 88; refine (start_any _ (hL4.out.ext E45)).mono ?_; rintro e w5 ⟨rfl, hL5, M5⟩); have hR5 := (hR4.out.ext E45).mod M5 (by omega); have l0 := hL5.cell 0; rw [lineA_0] at l0; have l1 := hL5.cell 1; rw [lineA_1] at l1; obtain ⟨r0, r1, r2, r3⟩ := hR5.two)
            | (refine wpList_load_row rfl 26 _ rfl _ rfl 26 _ _ _ hT4.out Tryz.underlying26 rfl hi ?_)
            | ((go_at_call 84; refine (h39 _).mono ?_; rintro e w45 ⟨rfl, E45⟩)))
          have hP := (hR5.put2 (.bool false) (.bool b)).two
          refine bodyPost_ret (v := .tuple #[.agg #[.bool false, .bool b], .bool false]) (by simp [results, Tryz.results44, go_sem, hP.1, hP.2.1]) rfl ?_
          have E5 := Ext.modNew (E04.trans E45) M5 hg0
          exact ⟨by simp, Below.setCell (Below.setCell E5 (by simp; omega) _) (by simp; omega) _⟩
      ·
        go_wp2_with (first
          | ((go_at_call 87; refine (stop_any _ (hL4.out.ext (Ext.refl _))).mono ?_; rintro e w5 ⟨rfl, hL5, M5⟩); have hR5 := (hR4.out.ext (Ext.refl _)).mod M5 (by omega); have l0 := hL5.cell 0; rw [lineA_0] at l0; have l1 := hL5.cell 1; rw [lineA_1] at l1; obtain ⟨r0, r1, r2, r3⟩ := hR5.two)
          | (refine wpList_load_row rfl 26 _ rfl _ rfl 26 _ _ _ hT4.out Tryz.underlying26 rfl hi ?_)
          | ((go_at_call 84; refine (h39 _).mono ?_; rintro e w45 ⟨rfl, E45⟩)))
        have hP := (hR5.put2 (.bool true) (.bool b)).two
        refine bodyPost_ret (v := .tuple #[.agg #[.bool true, .bool b], .bool true]) (by simp [results, Tryz.results44, go_sem, hP.1, hP.2.1]) rfl ?_
        have E5 := Ext.modNew (E04.trans (Ext.refl _)) M5 hg0
        exact ⟨by simp, Below.setCell (Below.setCell E5 (by simp; omega) _) (by simp; omega) _⟩
    · cases q
      ·
        go_wp2_with (first
          | ((go_at_call 88; refine (start_any _ (hL4.out.ext (Ext.refl _))).mono ?_; rintro e w5 ⟨rfl, hL5, M5⟩); have hR5 := (hR4.out.ext (Ext.refl _)).mod M5 (by omega); have l0 := hL5.cell 0; rw [lineA_0] at l0; have l1 := hL5.cell 1; rw [lineA_1] at l1; obtain ⟨r0, r1, r2, r3⟩ := hR5.two)
          | (refine wpList_load_row rfl 26 _ rfl _ rfl 26 _ _ _ hT4.out Tryz.underlying26 rfl hi ?_)
          | ((go_at_call 84; refine (h39 _).mono ?_; rintro e w45 ⟨rfl, E45⟩)))
        have hP := (hR5.put2 (.bool false) (.bool b)).two
        refine bodyPost_ret (v := .tuple #[.agg #[.bool false, .bool b], .bool true]) (by simp [results, Tryz.results44, go_sem, hP.1, hP.2.1]) rfl ?_
        have E5 := Ext.modNew (E04.trans (Ext.refl _)) M5 hg0
        exact ⟨by simp, Below.setCell (Below.setCell E5 (by simp; omega) _) (by simp; omega) _⟩
      ·
        go_wp2_with (first
          | ((go_at_call 86; refine (turn_any _ (hL4.out.ext (Ext.refl _))).mono ?_; rintro e w5 ⟨rfl, hL5, M5⟩); have hR5 := (hR4.out.ext (Ext.refl _)).mod M5 (by omega); have l0 := hL5.cell 0; rw [lineA_0] at l0; have l1 := hL5.cell 1; rw [lineA_1] at l1; obtain ⟨r0, r1, r2, r3⟩ := hR5.two)
          | (refine wpList_load_row rfl 26 _ rfl _ rfl 26 _ _ _ hT4.out Tryz.underlying26 rfl hi ?_)
          | ((go_at_call 84; refine (h39 _).mono ?_; rintro e w45 ⟨rfl, E45⟩)))
        have hP := (hR5.put2 (.bool (!a)) (.bool b)).two
        refine bodyPost_ret (v := .tuple #[.agg #[.bool (!a), .bool b], .bool true]) (by simp [results, Tryz.results44, go_sem, hP.1, hP.2.1]) rfl ?_
        have E5 := Ext.modNew (E04.trans (Ext.refl _)) M5 hg0
        exact ⟨by simp, Below.setCell (Below.setCell E5 (by simp; omega) _) (by simp; omega) _⟩
end Go.Proofs.YtfnicinnjkbedaaGreatDoor.Fl
namespace Go.Proofs.YtfnicinnjkbedaaGreatDoor.Fl
set_option maxRecDepth 100000
open Go.RowKit Go.Kb

/-- held, and what the other end is told -/
def markL (t : Tm) (b : Bool) (n lo hi : Int) : Bool × List Int :=
  if b then (if n ≤ lo then (false, if hasL t 40 then tellL t 8 else []) else (true, []))
  else (if hasL t 40 = true ∧ hi ≤ n then (true, tellL t 9) else (false, []))
theorem markL_eq (t : Tm) (b : Bool) (n lo hi : Int) : markL t b n lo hi = if b then (if n ≤ lo then (false, if hasL t 40 then tellL t 8 else []) else (true, []))
  else (if hasL t 40 = true ∧ hi ≤ n then (true, tellL t 9) else (false, [])) := rfl
def MarkPost (w : World) (a b : Bool) (l : List Int) (e : Ending) (w' : World) : Prop :=
  ∃ A c, e = .returned (.tuple #[.agg #[.bool a, .bool b], .slice A l.length c]) ∧ RI .u8 w' (.slice A l.length c) l ∧ (∀ k, (Value.slice A l.length c).ownBlock = some k → w.heap.size ≤ k) ∧ Ext w w'
set_option maxHeartbeats 800000 in
theorem mark_any (t : Tm) (a b : Bool) (n lo hi : Int) (w : World) (ht : t.Ok) :
    Calls Tryz.prog 79 #[.agg t.arr, .agg #[.bool a, .bool b], .int .i64 n, .int .i64 lo, .int .i64 hi] w (MarkPost w a (markL t b n lo hi).1 (markL t b n lo hi).2) := by
  have hn := t.size ht
  have h40 := fun w' => has_any t 40 w' ht
  have hH := fun (g : Nat) (a b : Bool) (w' : World) h => holdIn_any (g := g) (a := a) (b := b) t w' ht h
  have hG := fun (g : Nat) (a b : Bool) (w' : World) h => goOnIn_any (g := g) (a := a) (b := b) t w' ht h
  rw [markL_eq]
  generalize hasL t 40 = x at *
  generalize tellL t 9 = l9 at *
  generalize tellL t 8 = l8 at *
  generalize t.arr = cs at *
  clear ht
  have hi' : (Tryz.prog.info? 26).map (·.size) = some cs.size := by rw [hn]; kernel_rfl
  cases b
  · cases x
    · show Calls _ _ _ _ (MarkPost w a false [])
      have hbl := Lib.hid (built_line a false cs hn)
      have hT := Lib.hid (((Blk.new w 26 cs).alloc (.cells #[.bool a, .bool false] 80)).alloc (.cells #[.bool false, .bool false] 80))
      have hF := Lib.hid ((Blk.at_ (w := w.alloc (.cells cs 26)) (B := w.heap.size + 1) 80 #[.bool a, .bool false] (by simp)).alloc (.cells #[.bool false, .bool false] 80))
      have hR := Lib.hid (Blk.at_ (w := (w.alloc (.cells cs 26)).alloc (.cells #[.bool a, .bool false] 80)) (B := w.heap.size + 1 + 1) 80 #[.bool false, .bool false] (by simp))
      have HN := Lib.hid hn
      clear hn
      obtain ⟨f0, f1, f2, f3⟩ := hF.out.two
      go_enter Tryz.func79, Tryz.ntmps79
      go_wp2_with (first
        | (refine wpList_load_row rfl 26 _ rfl _ rfl 26 _ _ _ hT.out Tryz.underlying26 rfl hi' ?_)
        | (refine wpList_build_eq rfl 144 _ rfl (L := lineA a false cs (.slice none 0 0)) (by (try simp [go_sem]); exact hbl.out) ?_; have hT2 := hT.out.alloc (.cells (lineA a false cs (.slice none 0 0)) 144))
        | (refine wpList_load_row rfl 26 _ rfl _ rfl 26 _ _ _ hT2 Tryz.underlying26 rfl hi' ?_))
      refine (h40 _).mono ?_
      rintro e w1 ⟨rfl, E1⟩
      have hF1 := (hF.out.alloc (.cells (lineA a false cs (.slice none 0 0)) 144)).ext E1
      have hR1 := (hR.out.alloc (.cells (lineA a false cs (.slice none 0 0)) 144)).ext E1
      have hL1 := (Blk.at_ (w := ((w.alloc (.cells cs 26)).alloc (.cells #[.bool a, .bool false] 80)).alloc (.cells #[.bool false, .bool false] 80)) (B := w.heap.size + 1 + 1 + 1) 144 (lineA a false cs (.slice none 0 0)) (by simp)).ext E1
      have E01 : Ext w w1 := (by repeat (first | with_reducible exact Ext.refl _ | refine Ext.drewN ?_ _ | refine Ext.drew ?_ | refine Ext.alloc ?_ _ | assumption | (refine Below.trans ?_ (by assumption)) | (refine Ext.trans ?_ (by assumption)) | (refine Below.trans ?_ (Below.mono (by assumption) (by omega)))))
      have hg : w.heap.size + 1 + 1 + 1 < w1.heap.size := hL1.lt
      clear f0 f1 f2 f3 E1 hT hF hR
      obtain ⟨f0, f1, f2, f3⟩ := hF1.two
      have m1 := hL1.cell 1
      have m1f := hL1.frozen 1
      rw [lineA_1] at m1
      clear hF1
      go_wp2
      have hLz := hL1
      have hRz := hR1
      have E0z := E01
      have ROz := Lib.hid (RdN.nil w1 1)
      have FRz : ∀ k, (Value.slice none 0 0).ownBlock = some k → w.heap.size ≤ k := fun k hk => by simp [Value.ownBlock] at hk
      have FRw : ∀ k, (Value.slice none 0 0).ownBlock = some k → w1.heap.size ≤ k := fun k hk => by simp [Value.ownBlock] at hk
      have l0 := hLz.cell 0
      rw [lineA_0] at l0
      have l1 := hLz.cell 1
      rw [lineA_1] at l1
      have l26 := hLz.cell 26
      rw [lineA_26 HN.out] at l26
      obtain ⟨r0, r1, r2, r3⟩ := hRz.two
      go_region_law (fail)
      all_goals go_wp2
      all_goals
        have hP := (Blk.drew (hRz.put2 (.bool a) (.bool false))).two
        refine bodyPost_ret (v := .tuple #[.agg #[.bool a, .bool false], .slice none (([] : List Int)).length 0]) (by simp [results, Tryz.results79, go_sem, hP.1, hP.2.1]) rfl ?_
        refine ⟨none, 0, rfl, ?_, FRz, Ext.drew (Below.setCell (Below.setCell E0z (by simp; omega) _) (by simp; omega) _)⟩
        exact RdN.mod (S := fun k => k = w.heap.size + 1 + 1) ROz.out (((Mod.refl _ _).set1 _).set1 _).drew (fun k hk he => by have := FRw k hk; omega)
    · by_cases hge : hi ≤ n
      · have e : (if (true : Bool) = true ∧ hi ≤ n then (true, l9) else (false, [])) = (true, l9) := if_pos ⟨rfl, hge⟩
        show Calls _ _ _ _ (MarkPost w a (if (true : Bool) = true ∧ hi ≤ n then (true, l9) else (false, [])).1 (if (true : Bool) = true ∧ hi ≤ n then (true, l9) else (false, [])).2)
        rw [e]
        clear e
        have hbl := Lib.hid (built_line a false cs hn)
        have hT := Lib.hid (((Blk.new w 26 cs).alloc (.cells #[.bool a, .bool false] 80)).alloc (.cells #[.bool false, .bool false] 80))
        have hF := Lib.hid ((Blk.at_ (w := w.alloc (.cells cs 26)) (B := w.heap.size + 1) 80 #[.bool a, .bool false] (by simp)).alloc (.cells #[.bool false, .bool false] 80))
        have hR := Lib.hid (Blk.at_ (w := (w.alloc (.cells cs 26)).alloc (.cells #[.bool a, .bool false] 80)) (B := w.heap.size + 1 + 1) 80 #[.bool false, .bool false] (by simp))
        have HN := Lib.hid hn
        clear hn
        obtain ⟨f0, f1, f2, f3⟩ := hF.out.two
        go_enter Tryz.func79, Tryz.ntmps79
        go_wp2_with (first
          | (refine wpList_load_row rfl 26 _ rfl _ rfl 26 _ _ _ hT.out Tryz.underlying26 rfl hi' ?_)
          | (refine wpList_build_eq rfl 144 _ rfl (L := lineA a false cs (.slice none 0 0)) (by (try simp [go_sem]); exact hbl.out) ?_; have hT2 := hT.out.alloc (.cells (lineA a false cs (.slice none 0 0)) 144))
          | (refine wpList_load_row rfl 26 _ rfl _ rfl 26 _ _ _ hT2 Tryz.underlying26 rfl hi' ?_))
        refine (h40 _).mono ?_
        rintro e w1 ⟨rfl, E1⟩
        have hF1 := (hF.out.alloc (.cells (lineA a false cs (.slice none 0 0)) 144)).ext E1
        have hR1 := (hR.out.alloc (.cells (lineA a false cs (.slice none 0 0)) 144)).ext E1
        have hL1 := (Blk.at_ (w := ((w.alloc (.cells cs 26)).alloc (.cells #[.bool a, .bool false] 80)).alloc (.cells #[.bool false, .bool false] 80)) (B := w.heap.size + 1 + 1 + 1) 144 (lineA a false cs (.slice none 0 0)) (by simp)).ext E1
        have E01 : Ext w w1 := (by repeat (first | with_reducible exact Ext.refl _ | refine Ext.drewN ?_ _ | refine Ext.drew ?_ | refine Ext.alloc ?_ _ | assumption | (refine Below.trans ?_ (by assumption)) | (refine Ext.trans ?_ (by assumption)) | (refine Below.trans ?_ (Below.mono (by assumption) (by omega)))))
        have hg : w.heap.size + 1 + 1 + 1 < w1.heap.size := hL1.lt
        clear f0 f1 f2 f3 E1 hT hF hR
        obtain ⟨f0, f1, f2, f3⟩ := hF1.two
        have m1 := hL1.cell 1
        have m1f := hL1.frozen 1
        rw [lineA_1] at m1
        clear hF1
        have hL2 := hL1.set_ 1 (.bool true)
        rw [lineA_set1] at hL2
        have hR2 := hR1.far (p := ⟨w.heap.size + 1 + 1 + 1, 1, none⟩) (by simp) (.bool true)
        have E02 := Below.setCell E01 (p := ⟨w.heap.size + 1 + 1 + 1, 1, none⟩) (by simp; omega) (.bool true)
        have hs2 : (w1.setCell ⟨w.heap.size + 1 + 1 + 1, 1, none⟩ (.bool true)).heap.size = w1.heap.size := by simp
        go_wp2_with fail
        refine (hH _ a true _ hL2).mono ?_
        rintro e w3 ⟨rfl, A, c, hLz, RO, FRw, M3⟩
        have ROz := Lib.hid RO
        rw [hs2] at FRw
        have hRz := hR2.mod M3 (by omega)
        have E0z := Ext.modNew E02 M3 (by omega)
        have FRz : ∀ k, (Value.slice A (l9).length c).ownBlock = some k → w.heap.size ≤ k := fun k hk => Nat.le_trans (by omega) (FRw k hk)
        clear RO M3 hL2 hR2 E02 m1 m1f f0 f1 f2 f3
        go_wp2_with fail
        have l0 := hLz.cell 0
        rw [lineA_0] at l0
        have l1 := hLz.cell 1
        rw [lineA_1] at l1
        have l26 := hLz.cell 26
        rw [lineA_26 HN.out] at l26
        obtain ⟨r0, r1, r2, r3⟩ := hRz.two
        go_region_law (fail)
        all_goals go_wp2
        all_goals
          have hP := (Blk.drew (hRz.put2 (.bool a) (.bool true))).two
          refine bodyPost_ret (v := .tuple #[.agg #[.bool a, .bool true], .slice A (l9).length c]) (by simp [results, Tryz.results79, go_sem, hP.1, hP.2.1]) rfl ?_
          refine ⟨A, c, rfl, ?_, FRz, Ext.drew (Below.setCell (Below.setCell E0z (by simp; omega) _) (by simp; omega) _)⟩
          exact RdN.mod (S := fun k => k = w.heap.size + 1 + 1) ROz.out (((Mod.refl _ _).set1 _).set1 _).drew (fun k hk he => by have := FRw k hk; omega)
      · have e : (if (true : Bool) = true ∧ hi ≤ n then (true, l9) else (false, [])) = (false, []) := if_neg fun h => hge h.2
        show Calls _ _ _ _ (MarkPost w a (if (true : Bool) = true ∧ hi ≤ n then (true, l9) else (false, [])).1 (if (true : Bool) = true ∧ hi ≤ n then (true, l9) else (false, [])).2)
        rw [e]
        clear e
        have hbl := Lib.hid (built_line a false cs hn)
        have hT := Lib.hid (((Blk.new w 26 cs).alloc (.cells #[.bool a, .bool false] 80)).alloc (.cells #[.bool false, .bool false] 80))
        have hF := Lib.hid ((Blk.at_ (w := w.alloc (.cells cs 26)) (B := w.heap.size + 1) 80 #[.bool a, .bool false] (by simp)).alloc (.cells #[.bool false, .bool false] 80))
        have hR := Lib.hid (Blk.at_ (w := (w.alloc (.cells cs 26)).alloc (.cells #[.bool a, .bool false] 80)) (B := w.heap.size + 1 + 1) 80 #[.bool false, .bool false] (by simp))
        have HN := Lib.hid hn
        clear hn
        obtain ⟨f0, f1, f2, f3⟩ := hF.out.two
        go_enter Tryz.func79, Tryz.ntmps79
        go_wp2_with (first
          | (refine wpList_load_row rfl 26 _ rfl _ rfl 26 _ _ _ hT.out Tryz.underlying26 rfl hi' ?_)
          | (refine wpList_build_eq rfl 144 _ rfl (L := lineA a false cs (.slice none 0 0)) (by (try simp [go_sem]); exact hbl.out) ?_; have hT2 := hT.out.alloc (.cells (lineA a false cs (.slice none 0 0)) 144))
          | (refine wpList_load_row rfl 26 _ rfl _ rfl 26 _ _ _ hT2 Tryz.underlying26 rfl hi' ?_))
        refine (h40 _).mono ?_
        rintro e w1 ⟨rfl, E1⟩
        have hF1 := (hF.out.alloc (.cells (lineA a false cs (.slice none 0 0)) 144)).ext E1
        have hR1 := (hR.out.alloc (.cells (lineA a false cs (.slice none 0 0)) 144)).ext E1
        have hL1 := (Blk.at_ (w := ((w.alloc (.cells cs 26)).alloc (.cells #[.bool a, .bool false] 80)).alloc (.cells #[.bool false, .bool false] 80)) (B := w.heap.size + 1 + 1 + 1) 144 (lineA a false cs (.slice none 0 0)) (by simp)).ext E1
        have E01 : Ext w w1 := (by repeat (first | with_reducible exact Ext.refl _ | refine Ext.drewN ?_ _ | refine Ext.drew ?_ | refine Ext.alloc ?_ _ | assumption | (refine Below.trans ?_ (by assumption)) | (refine Ext.trans ?_ (by assumption)) | (refine Below.trans ?_ (Below.mono (by assumption) (by omega)))))
        have hg : w.heap.size + 1 + 1 + 1 < w1.heap.size := hL1.lt
        clear f0 f1 f2 f3 E1 hT hF hR
        obtain ⟨f0, f1, f2, f3⟩ := hF1.two
        have m1 := hL1.cell 1
        have m1f := hL1.frozen 1
        rw [lineA_1] at m1
        clear hF1
        go_wp2
        have hLz := hL1
        have hRz := hR1
        have E0z := E01
        have ROz := Lib.hid (RdN.nil w1 1)
        have FRz : ∀ k, (Value.slice none 0 0).ownBlock = some k → w.heap.size ≤ k := fun k hk => by simp [Value.ownBlock] at hk
        have FRw : ∀ k, (Value.slice none 0 0).ownBlock = some k → w1.heap.size ≤ k := fun k hk => by simp [Value.ownBlock] at hk
        have l0 := hLz.cell 0
        rw [lineA_0] at l0
        have l1 := hLz.cell 1
        rw [lineA_1] at l1
        have l26 := hLz.cell 26
        rw [lineA_26 HN.out] at l26
        obtain ⟨r0, r1, r2, r3⟩ := hRz.two
        go_region_law (fail)
        all_goals go_wp2
        all_goals
          have hP := (Blk.drew (hRz.put2 (.bool a) (.bool false))).two
          refine bodyPost_ret (v := .tuple #[.agg #[.bool a, .bool false], .slice none (([] : List Int)).length 0]) (by simp [results, Tryz.results79, go_sem, hP.1, hP.2.1]) rfl ?_
          refine ⟨none, 0, rfl, ?_, FRz, Ext.drew (Below.setCell (Below.setCell E0z (by simp; omega) _) (by simp; omega) _)⟩
          exact RdN.mod (S := fun k => k = w.heap.size + 1 + 1) ROz.out (((Mod.refl _ _).set1 _).set1 _).drew (fun k hk he => by have := FRw k hk; omega)
  · by_cases hle : n ≤ lo
    · have e : (if n ≤ lo then (false, if x then l8 else []) else (true, [])) = (false, if x then l8 else []) := if_pos hle
      show Calls _ _ _ _ (MarkPost w a (if n ≤ lo then (false, if x then l8 else []) else (true, [])).1 (if n ≤ lo then (false, if x then l8 else []) else (true, [])).2)
      rw [e]
      clear e
      cases x
      · show Calls _ _ _ _ (MarkPost w a false [])
        have hbl := Lib.hid (built_line a true cs hn)
        have hT := Lib.hid (((Blk.new w 26 cs).alloc (.cells #[.bool a, .bool true] 80)).alloc (.cells #[.bool false, .bool false] 80))
        have hF := Lib.hid ((Blk.at_ (w := w.alloc (.cells cs 26)) (B := w.heap.size + 1) 80 #[.bool a, .bool true] (by simp)).alloc (.cells #[.bool false, .bool false] 80))
        have hR := Lib.hid (Blk.at_ (w := (w.alloc (.cells cs 26)).alloc (.cells #[.bool a, .bool true] 80)) (B := w.heap.size + 1 + 1) 80 #[.bool false, .bool false] (by simp))
        have HN := Lib.hid hn
        clear hn
        obtain ⟨f0, f1, f2, f3⟩ := hF.out.two
        go_enter Tryz.func79, Tryz.ntmps79
        go_wp2_with (first
          | (refine wpList_load_row rfl 26 _ rfl _ rfl 26 _ _ _ hT.out Tryz.underlying26 rfl hi' ?_)
          | (refine wpList_build_eq rfl 144 _ rfl (L := lineA a true cs (.slice none 0 0)) (by (try simp [go_sem]); exact hbl.out) ?_; have hT2 := hT.out.alloc (.cells (lineA a true cs (.slice none 0 0)) 144))
          | (refine wpList_load_row rfl 26 _ rfl _ rfl 26 _ _ _ hT2 Tryz.underlying26 rfl hi' ?_))
        refine (h40 _).mono ?_
        rintro e w1 ⟨rfl, E1⟩
        have hF1 := (hF.out.alloc (.cells (lineA a true cs (.slice none 0 0)) 144)).ext E1
        have hR1 := (hR.out.alloc (.cells (lineA a true cs (.slice none 0 0)) 144)).ext E1
        have hL1 := (Blk.at_ (w := ((w.alloc (.cells cs 26)).alloc (.cells #[.bool a, .bool true] 80)).alloc (.cells #[.bool false, .bool false] 80)) (B := w.heap.size + 1 + 1 + 1) 144 (lineA a true cs (.slice none 0 0)) (by simp)).ext E1
        have E01 : Ext w w1 := (by repeat (first | with_reducible exact Ext.refl _ | refine Ext.drewN ?_ _ | refine Ext.drew ?_ | refine Ext.alloc ?_ _ | assumption | (refine Below.trans ?_ (by assumption)) | (refine Ext.trans ?_ (by assumption)) | (refine Below.trans ?_ (Below.mono (by assumption) (by omega)))))
        have hg : w.heap.size + 1 + 1 + 1 < w1.heap.size := hL1.lt
        clear f0 f1 f2 f3 E1 hT hF hR
        obtain ⟨f0, f1, f2, f3⟩ := hF1.two
        have m1 := hL1.cell 1
        have m1f := hL1.frozen 1
        rw [lineA_1] at m1
        clear hF1
        go_wp2
        have hLz := hL1.set_ 1 (.bool false)
        rw [lineA_set1] at hLz
        have hRz := hR1.far (p := ⟨w.heap.size + 1 + 1 + 1, 1, none⟩) (by simp) (.bool false)
        have E0z := Below.setCell E01 (p := ⟨w.heap.size + 1 + 1 + 1, 1, none⟩) (by simp; omega) (.bool false)
        clear m1 m1f
        have ROz := Lib.hid (RdN.nil (w1.setCell ⟨w.heap.size + 1 + 1 + 1, 1, none⟩ (.bool false)) 1)
        have FRz : ∀ k, (Value.slice none 0 0).ownBlock = some k → w.heap.size ≤ k := fun k hk => by simp [Value.ownBlock] at hk
        have FRw : ∀ k, (Value.slice none 0 0).ownBlock = some k → w1.heap.size ≤ k := fun k hk => by simp [Value.ownBlock] at hk
        have l0 := hLz.cell 0
        rw [lineA_0] at l0
        have l1 := hLz.cell 1
        rw [lineA_1] at l1
        have l26 := hLz.cell 26
        rw [lineA_26 HN.out] at l26
        obtain ⟨r0, r1, r2, r3⟩ := hRz.two
        go_region_law (fail)
        all_goals go_wp2
        all_goals
          have hP := (Blk.drew (hRz.put2 (.bool a) (.bool false))).two
          refine bodyPost_ret (v := .tuple #[.agg #[.bool a, .bool false], .slice none (([] : List Int)).length 0]) (by simp [results, Tryz.results79, go_sem, hP.1, hP.2.1]) rfl ?_
          refine ⟨none, 0, rfl, ?_, FRz, Ext.drew (Below.setCell (Below.setCell E0z (by simp; omega) _) (by simp; omega) _)⟩
          exact RdN.mod (S := fun k => k = w.heap.size + 1 + 1) ROz.out (((Mod.refl _ _).set1 _).set1 _).drew (fun k hk he => by have := FRw k hk; omega)
      · show Calls _ _ _ _ (MarkPost w a false l8)
        have hbl := Lib.hid (built_line a true cs hn)
        have hT := Lib.hid (((Blk.new w 26 cs).alloc (.cells #[.bool a, .bool true] 80)).alloc (.cells #[.bool false, .bool false] 80))
        have hF := Lib.hid ((Blk.at_ (w := w.alloc (.cells cs 26)) (B := w.heap.size + 1) 80 #[.bool a, .bool true] (by simp)).alloc (.cells #[.bool false, .bool false] 80))
        have hR := Lib.hid (Blk.at_ (w := (w.alloc (.cells cs 26)).alloc (.cells #[.bool a, .bool true] 80)) (B := w.heap.size + 1 + 1) 80 #[.bool false, .bool false] (by simp))
        have HN := Lib.hid hn
        clear hn
        obtain ⟨f0, f1, f2, f3⟩ := hF.out.two
        go_enter Tryz.func79, Tryz.ntmps79
        go_wp2_with (first
          | (refine wpList_load_row rfl 26 _ rfl _ rfl 26 _ _ _ hT.out Tryz.underlying26 rfl hi' ?_)
          | (refine wpList_build_eq rfl 144 _ rfl (L := lineA a true cs (.slice none 0 0)) (by (try simp [go_sem]); exact hbl.out) ?_; have hT2 := hT.out.alloc (.cells (lineA a true cs (.slice none 0 0)) 144))
          | (refine wpList_load_row rfl 26 _ rfl _ rfl 26 _ _ _ hT2 Tryz.underlying26 rfl hi' ?_))
        refine (h40 _).mono ?_
        rintro e w1 ⟨rfl, E1⟩
        have hF1 := (hF.out.alloc (.cells (lineA a true cs (.slice none 0 0)) 144)).ext E1
        have hR1 := (hR.out.alloc (.cells (lineA a true cs (.slice none 0 0)) 144)).ext E1
        have hL1 := (Blk.at_ (w := ((w.alloc (.cells cs 26)).alloc (.cells #[.bool a, .bool true] 80)).alloc (.cells #[.bool false, .bool false] 80)) (B := w.heap.size + 1 + 1 + 1) 144 (lineA a true cs (.slice none 0 0)) (by simp)).ext E1
        have E01 : Ext w w1 := (by repeat (first | with_reducible exact Ext.refl _ | refine Ext.drewN ?_ _ | refine Ext.drew ?_ | refine Ext.alloc ?_ _ | assumption | (refine Below.trans ?_ (by assumption)) | (refine Ext.trans ?_ (by assumption)) | (refine Below.trans ?_ (Below.mono (by assumption) (by omega)))))
        have hg : w.heap.size + 1 + 1 + 1 < w1.heap.size := hL1.lt
        clear f0 f1 f2 f3 E1 hT hF hR
        obtain ⟨f0, f1, f2, f3⟩ := hF1.two
        have m1 := hL1.cell 1
        have m1f := hL1.frozen 1
        rw [lineA_1] at m1
        clear hF1
        have hL2 := hL1.set_ 1 (.bool false)
        rw [lineA_set1] at hL2
        have hR2 := hR1.far (p := ⟨w.heap.size + 1 + 1 + 1, 1, none⟩) (by simp) (.bool false)
        have E02 := Below.setCell E01 (p := ⟨w.heap.size + 1 + 1 + 1, 1, none⟩) (by simp; omega) (.bool false)
        have hs2 : (w1.setCell ⟨w.heap.size + 1 + 1 + 1, 1, none⟩ (.bool false)).heap.size = w1.heap.size := by simp
        go_wp2_with fail
        refine (hG _ a false _ hL2).mono ?_
        rintro e w3 ⟨rfl, A, c, hLz, RO, FRw, M3⟩
        have ROz := Lib.hid RO
        rw [hs2] at FRw
        have hRz := hR2.mod M3 (by omega)
        have E0z := Ext.modNew E02 M3 (by omega)
        have FRz : ∀ k, (Value.slice A (l8).length c).ownBlock = some k → w.heap.size ≤ k := fun k hk => Nat.le_trans (by omega) (FRw k hk)
        clear RO M3 hL2 hR2 E02 m1 m1f f0 f1 f2 f3
        go_wp2_with fail
        have l0 := hLz.cell 0
        rw [lineA_0] at l0
        have l1 := hLz.cell 1
        rw [lineA_1] at l1
        have l26 := hLz.cell 26
        rw [lineA_26 HN.out] at l26
        obtain ⟨r0, r1, r2, r3⟩ := hRz.two
        go_region_law (fail)
        all_goals go_wp2
        all_goals
          have hP := (Blk.drew (hRz.put2 (.bool a) (.bool false))).two
          refine bodyPost_ret (v := .tuple #[.agg #[.bool a, .bool false], .slice A (l8).length c]) (by simp [results, Tryz.results79, go_sem, hP.1, hP.2.1]) rfl ?_
          refine ⟨A, c, rfl, ?_, FRz, Ext.drew (Below.setCell (Below.setCell E0z (by simp; omega) _) (by simp; omega) _)⟩
          exact RdN.mod (S := fun k => k = w.heap.size + 1 + 1) ROz.out (((Mod.refl _ _).set1 _).set1 _).drew (fun k hk he => by have := FRw k hk; omega)
    · have e : (if n ≤ lo then (false, if x then l8 else []) else (true, [])) = (true, []) := if_neg hle
      show Calls _ _ _ _ (MarkPost w a (if n ≤ lo then (false, if x then l8 else []) else (true, [])).1 (if n ≤ lo then (false, if x then l8 else []) else (true, [])).2)
      rw [e]
      clear e
      have hbl := Lib.hid (built_line a true cs hn)
      have hT := Lib.hid (((Blk.new w 26 cs).alloc (.cells #[.bool a, .bool true] 80)).alloc (.cells #[.bool false, .bool false] 80))
      have hF := Lib.hid ((Blk.at_ (w := w.alloc (.cells cs 26)) (B := w.heap.size + 1) 80 #[.bool a, .bool true] (by simp)).alloc (.cells #[.bool false, .bool false] 80))
      have hR := Lib.hid (Blk.at_ (w := (w.alloc (.cells cs 26)).alloc (.cells #[.bool a, .bool true] 80)) (B := w.heap.size + 1 + 1) 80 #[.bool false, .bool false] (by simp))
      have HN := Lib.hid hn
      clear hn
      obtain ⟨f0, f1, f2, f3⟩ := hF.out.two
      go_enter Tryz.func79, Tryz.ntmps79
      go_wp2_with (first
        | (refine wpList_load_row rfl 26 _ rfl _ rfl 26 _ _ _ hT.out Tryz.underlying26 rfl hi' ?_)
        | (refine wpList_build_eq rfl 144 _ rfl (L := lineA a true cs (.slice none 0 0)) (by (try simp [go_sem]); exact hbl.out) ?_; have hT2 := hT.out.alloc (.cells (lineA a true cs (.slice none 0 0)) 144))
        | (refine wpList_load_row rfl 26 _ rfl _ rfl 26 _ _ _ hT2 Tryz.underlying26 rfl hi' ?_))
      refine (h40 _).mono ?_
      rintro e w1 ⟨rfl, E1⟩
      have hF1 := (hF.out.alloc (.cells (lineA a true cs (.slice none 0 0)) 144)).ext E1
      have hR1 := (hR.out.alloc (.cells (lineA a true cs (.slice none 0 0)) 144)).ext E1
      have hL1 := (Blk.at_ (w := ((w.alloc (.cells cs 26)).alloc (.cells #[.bool a, .bool true] 80)).alloc (.cells #[.bool false, .bool false] 80)) (B := w.heap.size + 1 + 1 + 1) 144 (lineA a true cs (.slice none 0 0)) (by simp)).ext E1
      have E01 : Ext w w1 := (by repeat (first | with_reducible exact Ext.refl _ | refine Ext.drewN ?_ _ | refine Ext.drew ?_ | refine Ext.alloc ?_ _ | assumption | (refine Below.trans ?_ (by assumption)) | (refine Ext.trans ?_ (by assumption)) | (refine Below.trans ?_ (Below.mono (by assumption) (by omega)))))
      have hg : w.heap.size + 1 + 1 + 1 < w1.heap.size := hL1.lt
      clear f0 f1 f2 f3 E1 hT hF hR
      obtain ⟨f0, f1, f2, f3⟩ := hF1.two
      have m1 := hL1.cell 1
      have m1f := hL1.frozen 1
      rw [lineA_1] at m1
      clear hF1
      go_wp2
      have hLz := hL1
      have hRz := hR1
      have E0z := E01
      have ROz := Lib.hid (RdN.nil w1 1)
      have FRz : ∀ k, (Value.slice none 0 0).ownBlock = some k → w.heap.size ≤ k := fun k hk => by simp [Value.ownBlock] at hk
      have FRw : ∀ k, (Value.slice none 0 0).ownBlock = some k → w1.heap.size ≤ k := fun k hk => by simp [Value.ownBlock] at hk
      have l0 := hLz.cell 0
      rw [lineA_0] at l0
      have l1 := hLz.cell 1
      rw [lineA_1] at l1
      have l26 := hLz.cell 26
      rw [lineA_26 HN.out] at l26
      obtain ⟨r0, r1, r2, r3⟩ := hRz.two
      go_region_law (fail)
      all_goals go_wp2
      all_goals
        have hP := (Blk.drew (hRz.put2 (.bool a) (.bool true))).two
        refine bodyPost_ret (v := .tuple #[.agg #[.bool a, .bool true], .slice none (([] : List Int)).length 0]) (by simp [results, Tryz.results79, go_sem, hP.1, hP.2.1]) rfl ?_
        refine ⟨none, 0, rfl, ?_, FRz, Ext.drew (Below.setCell (Below.setCell E0z (by simp; omega) _) (by simp; omega) _)⟩
        exact RdN.mod (S := fun k => k = w.heap.size + 1 + 1) ROz.out (((Mod.refl _ _).set1 _).set1 _).drew (fun k hk he => by have := FRw k hk; omega)
end Go.Proofs.YtfnicinnjkbedaaGreatDoor.Fl
