/- What is done with a signal, and what becomes of a process, is the document's, walked. Conditions: the actions are as many as there are, ints are ints. -/
import Derived.Test.YteandiddfokfjaaO18
import Derived.DeepKeys
import Derived.Laws.StructEq
namespace Go.Proofs.Yteandiddfokfjaa
open Go.RowKit Go.Kb Go.Kb.Bits
set_option linter.unusedSimpArgs false

abbrev I64s (a : List Int) : Prop := ∀ x ∈ a, (Lit.int .i64 x).wf = true
theorem lit_i64 {x : Int} (h : (Lit.int .i64 x).wf = true) (d : Nat) : Try.prog.keyLits (d + 1) 3 [.int .i64 x] = some [Lit.int .i64 x] := by
  simp [Program.keyLits, Try.underlying3, h]
set_option maxRecDepth 100000 in
theorem lits_arr {a : List Int} (hl : a.length = 32) (hw : I64s a) (d : Nat) : Try.prog.keyLits (d + 2) 38 (a.map (Value.int .i64)) = some (a.map (Lit.int .i64)) := by
  have c1 : Try.prog.cellsOf 3 = 1 := by kernel_rfl
  have c32 : Try.prog.cellsOf 38 = 32 := by kernel_rfl
  obtain ⟨x0, x1, x2, x3, x4, x5, x6, x7, x8, x9, x10, x11, x12, x13, x14, x15, x16, x17, x18, x19, x20, x21, x22, x23, x24, x25, x26, x27, x28, x29, x30, x31, rfl⟩ : ∃ x0 x1 x2 x3 x4 x5 x6 x7 x8 x9 x10 x11 x12 x13 x14 x15 x16 x17 x18 x19 x20 x21 x22 x23 x24 x25 x26 x27 x28 x29 x30 x31, a = [x0, x1, x2, x3, x4, x5, x6, x7, x8, x9, x10, x11, x12, x13, x14, x15, x16, x17, x18, x19, x20, x21, x22, x23, x24, x25, x26, x27, x28, x29, x30, x31] := by
    match a, hl with
    | [x0, x1, x2, x3, x4, x5, x6, x7, x8, x9, x10, x11, x12, x13, x14, x15, x16, x17, x18, x19, x20, x21, x22, x23, x24, x25, x26, x27, x28, x29, x30, x31], _ => exact ⟨x0, x1, x2, x3, x4, x5, x6, x7, x8, x9, x10, x11, x12, x13, x14, x15, x16, x17, x18, x19, x20, x21, x22, x23, x24, x25, x26, x27, x28, x29, x30, x31, rfl⟩
  unfold I64s at hw
  simp only [List.mem_cons, List.not_mem_nil, or_false, forall_eq_or_imp, forall_eq] at hw
  obtain ⟨h0, h1, h2, h3, h4, h5, h6, h7, h8, h9, h10, h11, h12, h13, h14, h15, h16, h17, h18, h19, h20, h21, h22, h23, h24, h25, h26, h27, h28, h29, h30, h31⟩ := hw
  unfold Program.keyLits
  simp [Try.underlying38, c1, c32, List.range, List.range.loop, lit_i64 h0, lit_i64 h1, lit_i64 h2, lit_i64 h3, lit_i64 h4, lit_i64 h5, lit_i64 h6, lit_i64 h7, lit_i64 h8, lit_i64 h9, lit_i64 h10, lit_i64 h11, lit_i64 h12, lit_i64 h13, lit_i64 h14, lit_i64 h15, lit_i64 h16, lit_i64 h17, lit_i64 h18, lit_i64 h19, lit_i64 h20, lit_i64 h21, lit_i64 h22, lit_i64 h23, lit_i64 h24, lit_i64 h25, lit_i64 h26, lit_i64 h27, lit_i64 h28, lit_i64 h29, lit_i64 h30, lit_i64 h31]
theorem arr_eql {a b : List Int} (ha : a.length = 32) (hb : b.length = 32) (wa : I64s a) (wb : I64s b) (w : World) : (Op.equalIn 10000 38 (.agg (arrV a)) (.agg (arrV b))).run Try.prog w = .ok (decide (a = b)) w := by
  have hk : Try.prog.keyTypeAt 2 38 = true := by kernel_rfl
  have c32 : Try.prog.cellsOf 38 = 32 := by kernel_rfl
  have hf : ∀ {a : List Int}, a.length = 32 → (Value.agg (arrV a)).formed Try.prog 38 = true := fun {a} h => by
    simp [Value.formed, Try.underlying38, arrV_size h, c32]
  obtain ⟨r, hr, hiff⟩ := run_equalIn_deep (P := Try.prog) 9998 2 38 hk w 2 2 (.agg (arrV a)) (.agg (arrV b)) (a.map (Lit.int .i64)) (b.map (Lit.int .i64)) (hf ha) (hf hb) (lits_arr ha wa 0) (lits_arr hb wb 0)
  rw [List.map_inj_right (fun a b hab => by cases hab; rfl)] at hiff
  rw [hr]
  congr 1
  rw [Bool.eq_iff_iff, decide_eq_true_eq]
  exact hiff
theorem arr_guard : Try.prog.eqGuardType Try.prog.depth 38 = false := by kernel_rfl
theorem yieldsIf_eql_struct {P : Program} {ops : Array Oper} {S : World → Prop} {op : Oper} {a : Act} (hw : Region.wanted op (yielded ops a.tmps) = true) (t : TypeId) (x y : Operand) (ho : op.op = .binOp .eql t x y t)
    (cx cy : Array Value) (hx : a.eval x = .agg cx) (hy : a.eval y = .agg cy) (r : Bool) (hm : P.eqGuardType P.depth t = false)
    (hr : ∀ w, (Op.equalIn 10000 t (.agg cx) (.agg cy)).run P w = .ok r w) : YieldsIf P ops S op (.bool r) a :=
  .inl ⟨hw, fun w _ => by
    unfold execOp
    simp only [ho, hx, hy, Sem.run_bind, Sem.run_pure, Result.andThen_ok, run_eqGuard_agg w .eql t x y cx cy hm, run_eql_struct, hr w]⟩
theorem i64s_set {a : List Int} (h : I64s a) (k : Nat) {x : Int} (hx : (Lit.int .i64 x).wf = true) : I64s (a.set k x) := by
  intro y hy
  rcases List.mem_or_eq_of_mem_set hy with hy | rfl
  · exact h y hy
  · exact hx
theorem actL_ok {a : List Int} (ha : a.length = 32) (wa : I64s a) (sig : Int) {how : Int} (hh : (Lit.int .i64 how).wf = true) : (actL a sig how).1.length = 32 ∧ I64s (actL a sig how).1 := by
  unfold actL
  by_cases hb : badAct sig how = true
  · rw [if_pos hb]
    refine ⟨rfl, fun x hx => ?_⟩
    have : x = 0 := by simpa [zero32] using hx
    subst this
    decide
  · rw [if_neg hb]
    exact ⟨by rw [List.length_set]; exact ha, i64s_set wa _ hh⟩
set_option maxRecDepth 100000 in
set_option maxHeartbeats 800000 in
theorem sigsetActs_walk (a : List Int) (sig how : Int) (w : World) (ha : a.length = 32) (wa : I64s a) (hh : (Lit.int .i64 how).wf = true) :
    Calls Try.prog 4 #[.agg (arrV a), .int .i64 sig, .int .i64 how] w fun e w' => e = .returned (.bool true) ∧ Ext w w' := by
  have f1 := fun w' => act_any a sig how w' ha
  have f2 := fun w' => ract_any a sig how w' ha
  have f3 := fun w' => effect_any a sig w' ha
  have f4 := fun w' => reffect_any a sig w' ha
  obtain ⟨hl, wl⟩ := actL_ok ha wa sig hh
  have he := fun w' => arr_eql hl hl wl wl w'
  rw [decide_eq_true rfl] at he
  have hzb := arrV_size hl
  have h1b := Lib.hid (arrV_one (actL a sig how).1)
  have hz := arrV_size ha
  generalize (actL a sig how).2 = er at *
  generalize effL a sig = ef at *
  generalize arrV (actL a sig how).1 = cb at *
  generalize arrV a = cs at *
  have F1 := Lib.hid f1
  have F2 := Lib.hid f2
  have F3 := Lib.hid f3
  have F4 := Lib.hid f4
  have HE := Lib.hid he
  clear f1 f2 f3 f4 he hl wl ha wa hh
  have hi : (Try.prog.info? 38).map (·.size) = some cs.size := by rw [hz]; exact arr_info2
  have hib : (Try.prog.info? 38).map (·.size) = some cb.size := by rw [hzb]; exact arr_info2
  have hib2 : (Try.prog.info? 39).map (·.size) = some cb.size := by rw [hzb]; exact arr_info
  have hz32 : Hid ((#[.int .i64 0, .int .i64 0, .int .i64 0, .int .i64 0, .int .i64 0, .int .i64 0, .int .i64 0, .int .i64 0, .int .i64 0, .int .i64 0, .int .i64 0, .int .i64 0, .int .i64 0, .int .i64 0, .int .i64 0, .int .i64 0, .int .i64 0, .int .i64 0, .int .i64 0, .int .i64 0, .int .i64 0, .int .i64 0, .int .i64 0, .int .i64 0, .int .i64 0, .int .i64 0, .int .i64 0, .int .i64 0, .int .i64 0, .int .i64 0, .int .i64 0, .int .i64 0] : Array Value).size = cb.size) := Lib.hid (by rw [hzb]; rfl)
  have hT0 := Lib.hid (Blk.new w 38 cs)
  have b1 : (er == er) = true := by simp
  have b2 : (ef == ef) = true := by simp
  go_enter Try.func4, Try.ntmps4
  (go_wp2_with fail; refine (alive_any _).mono ?_; rintro e w1 ⟨rfl, E1⟩)
  have hT := Lib.hid (hT0.out.ext E1)
  have E01 : Ext w w1 := (by repeat (first | with_reducible exact Ext.refl _ | refine Ext.drewN ?_ _ | refine Ext.drew ?_ | refine Ext.alloc ?_ _ | assumption | (refine Below.trans ?_ (by assumption)) | (refine Ext.trans ?_ (by assumption)) | (refine Below.trans ?_ (Below.mono (by assumption) (by omega)))))
  clear E1 hT0
  go_wp2_with ((refine wpList_load_row rfl 38 _ rfl _ rfl 38 _ _ _ hT.out Try.underlying38 rfl hi ?_))
  (with_reducible refine (F1.out _).mono ?_); rintro e w2 ⟨rfl, E2⟩
  have hT := Lib.hid (hT.out.ext E2)
  go_wp2_with (first
    | (refine wpList_store_A rfl 39 _ _ rfl w2.heap.size _ rfl rfl 39 _ (Blk.at_ _ _ rfl) hib2 hz32.out h1b.out ?_; intro w3 H3 E3; have E3 : Ext w2 w3 := E3 w2.heap.size w2 (by repeat (first | with_reducible exact Ext.refl _ | refine Ext.drewN ?_ _ | refine Ext.drew ?_ | refine Ext.alloc ?_ _ | assumption | (refine Below.trans ?_ (by assumption)) | (refine Ext.trans ?_ (by assumption)) | (refine Below.trans ?_ (Below.mono (by assumption) (by omega))))) (Nat.le_refl _); have H3 := Lib.hid H3; have hT3 := Lib.hid (hT.out.ext E3))
    | (refine wpList_load_row rfl 38 _ rfl _ rfl 38 _ _ _ hT3.out Try.underlying38 rfl hi ?_))
  have E03 : Ext w w3 := E01.trans (E2.trans E3)
  clear E2 E3 E01
  (with_reducible refine (F2.out _).mono ?_); rintro e w4 ⟨rfl, E4⟩
  have hT := Lib.hid (hT3.out.ext E4)
  have hB := Lib.hid (H3.out.ext E4)
  go_wp2_with (refine wpList_store_A rfl 38 _ _ rfl w4.heap.size _ rfl rfl 38 _ (Blk.at_ _ _ rfl) hib hz32.out h1b.out ?_; intro w5 H5 E5; have E5 : Ext w4 w5 := E5 w4.heap.size w4 (by repeat (first | with_reducible exact Ext.refl _ | refine Ext.drewN ?_ _ | refine Ext.drew ?_ | refine Ext.alloc ?_ _ | assumption | (refine Below.trans ?_ (by assumption)) | (refine Ext.trans ?_ (by assumption)) | (refine Below.trans ?_ (Below.mono (by assumption) (by omega))))) (Nat.le_refl _); have hC := Lib.hid H5)
  have hT := Lib.hid (hT.out.ext E5)
  have hB := Lib.hid (hB.out.ext E5)
  have E05 : Ext w w5 := E03.trans (E4.trans E5)
  clear E4 E5 E03 H3 hT3
  refine wp_region_held_drew (S := fun w' => Ext w5 w') (by kernel_rfl) (by repeat (first | with_reducible exact Ext.refl _ | refine Ext.drewN ?_ _ | refine Ext.drew ?_ | refine Ext.alloc ?_ _ | assumption | (refine Below.trans ?_ (by assumption)) | (refine Ext.trans ?_ (by assumption)) | (refine Below.trans ?_ (Below.mono (by assumption) (by omega))))) (fun hHeld => ?_)
  (refine wpAnyH_take (i := 0) (v := .agg cb) rfl (by kernel_rfl) (by kernel_rfl) (by kernel_rfl) (fun _ _ _ h => h) (yieldsIf_load_row (by rfl) 39 _ rfl _ rfl 39 cb _ _ (fun w' hSw => (Blk.ext hB.out hSw)) Try.underlying39 rfl hib2) (by assumption) ?_; (try simp only [Act.put]); (try simp only [List.getElem_toArray]); (try simp only [List.getElem_cons_succ]); (try simp only [List.getElem_cons_zero]); (try simp only [List.setIfInBounds_toArray]); (try simp only [List.set_cons_succ]); (try simp only [List.set_cons_zero]))
  (refine wpAnyH_take (i := 1) (v := .agg cb) rfl (by kernel_rfl) (by kernel_rfl) (by kernel_rfl) (fun _ _ _ h => h) (yieldsIf_load_row (by rfl) 38 _ rfl _ rfl 38 cb _ _ (fun w' hSw => (Blk.ext hC.out hSw)) Try.underlying38 rfl hib) (by assumption) ?_; (try simp only [Act.put]); (try simp only [List.getElem_toArray]); (try simp only [List.getElem_cons_succ]); (try simp only [List.getElem_cons_zero]); (try simp only [List.setIfInBounds_toArray]); (try simp only [List.set_cons_succ]); (try simp only [List.set_cons_zero]))
  (refine wpAnyH_take (i := 2) (v := .bool true) rfl (by kernel_rfl) (by kernel_rfl) (by kernel_rfl) (fun _ _ _ h => h) (yieldsIf_eql_struct (by rfl) 38 _ _ rfl cb cb rfl rfl true arr_guard HE.out) (by assumption) ?_; (try simp only [List.getElem_toArray]); (try simp only [List.getElem_cons_succ]); (try simp only [List.getElem_cons_zero]); (try simp only [Act.put]); (try simp only [List.setIfInBounds_toArray]); (try simp only [List.set_cons_succ]); (try simp only [List.set_cons_zero]))
  (refine wpAnyH_take (i := 3) (v := ?_) rfl (by kernel_rfl) (by kernel_rfl) (by kernel_rfl) (fun _ _ _ h => h) (Or.inl ⟨by rfl, ?_⟩) (by assumption) ?_; rotate_left; (focus (intro w' hSw; go_simp; try with_reducible rfl)); (try simp only [List.getElem_toArray]); (try simp only [List.getElem_cons_succ]); (try simp only [List.getElem_cons_zero]); (try simp only [Act.put]); (try simp only [List.setIfInBounds_toArray]); (try simp only [List.set_cons_succ]); (try simp only [List.set_cons_zero]))
  (refine wpAnyH_take (i := 4) (v := ?_) rfl (by kernel_rfl) (by kernel_rfl) (by kernel_rfl) (fun _ _ _ h => h) (Or.inl ⟨by rfl, ?_⟩) (by assumption) ?_; rotate_left; (focus (intro w' hSw; go_simp; try with_reducible rfl)); (try simp only [List.getElem_toArray]); (try simp only [List.getElem_cons_succ]); (try simp only [List.getElem_cons_zero]); (try simp only [Act.put]); (try simp only [List.setIfInBounds_toArray]); (try simp only [List.set_cons_succ]); (try simp only [List.set_cons_zero]))
  (refine wpAnyH_take (i := 5) (v := ?_) rfl (by kernel_rfl) (by kernel_rfl) (by kernel_rfl) (fun _ _ _ h => h) (Or.inl ⟨by rfl, ?_⟩) (by assumption) ?_; rotate_left; (focus (intro w' hSw; go_simp; try with_reducible rfl)); (try simp only [List.getElem_toArray]); (try simp only [List.getElem_cons_succ]); (try simp only [List.getElem_cons_zero]); (try simp only [Act.put]); (try simp only [List.setIfInBounds_toArray]); (try simp only [List.set_cons_succ]); (try simp only [List.set_cons_zero]))
  (refine wpAnyH_take (i := 6) (v := ?_) rfl (by kernel_rfl) (by kernel_rfl) (by kernel_rfl) (fun _ _ _ h => h) (Or.inl ⟨by rfl, ?_⟩) (by assumption) ?_; rotate_left; (focus (intro w' hSw; go_simp; try with_reducible rfl)); (try simp only [List.getElem_toArray]); (try simp only [List.getElem_cons_succ]); (try simp only [List.getElem_cons_zero]); (try simp only [Act.put]); (try simp only [List.setIfInBounds_toArray]); (try simp only [List.set_cons_succ]); (try simp only [List.set_cons_zero]))
  (refine wpAnyH_take (i := 7) (v := ?_) rfl (by kernel_rfl) (by kernel_rfl) (by kernel_rfl) (fun _ _ _ h => h) (Or.inl ⟨by rfl, ?_⟩) (by assumption) ?_; rotate_left; (focus (intro w' hSw; go_simp; try with_reducible rfl)); (try simp only [List.getElem_toArray]); (try simp only [List.getElem_cons_succ]); (try simp only [List.getElem_cons_zero]); (try simp only [Act.put]); (try simp only [List.setIfInBounds_toArray]); (try simp only [List.set_cons_succ]); (try simp only [List.set_cons_zero]))
  (refine wpAnyH_take (i := 8) (v := ?_) rfl (by kernel_rfl) (by kernel_rfl) (by kernel_rfl) (fun _ _ _ h => h) (Or.inl ⟨by rfl, ?_⟩) (by assumption) ?_; rotate_left; (focus (intro w' hSw; go_simp; try with_reducible rfl)); (try simp only [List.getElem_toArray]); (try simp only [List.getElem_cons_succ]); (try simp only [List.getElem_cons_zero]); (try simp only [Act.put]); (try simp only [List.setIfInBounds_toArray]); (try simp only [List.set_cons_succ]); (try simp only [List.set_cons_zero]))
  (refine wpAnyH_take (i := 9) (v := .agg cs) rfl (by kernel_rfl) (by kernel_rfl) (by kernel_rfl) (fun _ _ _ h => h) (yieldsIf_load_row (by rfl) 38 _ rfl _ rfl 38 cs _ _ (fun w' hSw => (Blk.ext hT.out hSw)) Try.underlying38 rfl hi) (by assumption) ?_; (try simp only [Act.put]); (try simp only [List.getElem_toArray]); (try simp only [List.getElem_cons_succ]); (try simp only [List.getElem_cons_zero]); (try simp only [List.setIfInBounds_toArray]); (try simp only [List.set_cons_succ]); (try simp only [List.set_cons_zero]))
  (refine wpAnyH_take (i := 10) (v := ?_) rfl (by kernel_rfl) (by kernel_rfl) (by kernel_rfl) (fun _ _ _ h => h) (Or.inl ⟨by rfl, ?_⟩) (by assumption) ?_; rotate_left; (focus (intro w' hSw; go_simp; try with_reducible rfl)); (try simp only [List.getElem_toArray]); (try simp only [List.getElem_cons_succ]); (try simp only [List.getElem_cons_zero]); (try simp only [Act.put]); (try simp only [List.setIfInBounds_toArray]); (try simp only [List.set_cons_succ]); (try simp only [List.set_cons_zero]))
  (refine wpAnyH_take (i := 12) (v := .agg cs) rfl (by kernel_rfl) (by kernel_rfl) (by kernel_rfl) (fun _ _ _ h => h) (yieldsIf_load_row (by rfl) 38 _ rfl _ rfl 38 cs _ _ (fun w' hSw => (Blk.ext hT.out hSw)) Try.underlying38 rfl hi) (by assumption) ?_; (try simp only [Act.put]); (try simp only [List.getElem_toArray]); (try simp only [List.getElem_cons_succ]); (try simp only [List.getElem_cons_zero]); (try simp only [List.setIfInBounds_toArray]); (try simp only [List.set_cons_succ]); (try simp only [List.set_cons_zero]))
  (refine wpAnyH_take (i := 13) (v := ?_) rfl (by kernel_rfl) (by kernel_rfl) (by kernel_rfl) (fun _ _ _ h => h) (Or.inl ⟨by rfl, ?_⟩) (by assumption) ?_; rotate_left; (focus (intro w' hSw; go_simp; try with_reducible rfl)); (try simp only [List.getElem_toArray]); (try simp only [List.getElem_cons_succ]); (try simp only [List.getElem_cons_zero]); (try simp only [Act.put]); (try simp only [List.setIfInBounds_toArray]); (try simp only [List.set_cons_succ]); (try simp only [List.set_cons_zero]))
  (refine wpAnyH_ready (rs := [11]) (by kernel_rfl) (by simp) ?_; refine AllReadyH.cons rfl (fun K hK => ?_) AllReadyH.nil; go_simp; go_at_call 24; refine (F3.out _).mono ?_; rintro e w6 ⟨rfl, E6⟩; (try dsimp only); refine hK.out _ _ (by repeat (first | with_reducible exact Ext.refl _ | refine Ext.drewN ?_ _ | refine Ext.drew ?_ | refine Ext.alloc ?_ _ | assumption | (refine Below.trans ?_ (by assumption)) | (refine Ext.trans ?_ (by assumption)) | (refine Below.trans ?_ (Below.mono (by assumption) (by omega))))) (fun hHeld => ?_); clear hK K; (try simp only [Act.put]); (try simp only [List.getElem_toArray]); (try simp only [List.getElem_cons_succ]); (try simp only [List.getElem_cons_zero]); (try simp only [List.setIfInBounds_toArray]); (try simp only [List.set_cons_succ]); (try simp only [List.set_cons_zero]))
  (refine wpAnyH_ready (rs := [14]) (by kernel_rfl) (by simp) ?_; refine AllReadyH.cons rfl (fun K hK => ?_) AllReadyH.nil; go_simp; go_at_call 25; refine (F4.out _).mono ?_; rintro e w7 ⟨rfl, E7⟩; (try dsimp only); refine hK.out _ _ (by repeat (first | with_reducible exact Ext.refl _ | refine Ext.drewN ?_ _ | refine Ext.drew ?_ | refine Ext.alloc ?_ _ | assumption | (refine Below.trans ?_ (by assumption)) | (refine Ext.trans ?_ (by assumption)) | (refine Below.trans ?_ (Below.mono (by assumption) (by omega))))) (fun hHeld => ?_); clear hK K; (try simp only [Act.put]); (try simp only [List.getElem_toArray]); (try simp only [List.getElem_cons_succ]); (try simp only [List.getElem_cons_zero]); (try simp only [List.setIfInBounds_toArray]); (try simp only [List.set_cons_succ]); (try simp only [List.set_cons_zero]))
  (refine wpAnyH_take (i := 15) (v := ?_) rfl (by kernel_rfl) (by kernel_rfl) (by kernel_rfl) (fun _ _ _ h => h) (Or.inl ⟨by rfl, ?_⟩) (by assumption) ?_; rotate_left; (focus (intro w' hSw; go_simp; try with_reducible rfl)); (try simp only [List.getElem_toArray]); (try simp only [List.getElem_cons_succ]); (try simp only [List.getElem_cons_zero]); (try simp only [Act.put]); (try simp only [List.setIfInBounds_toArray]); (try simp only [List.set_cons_succ]); (try simp only [List.set_cons_zero]))
  (refine wpAnyH_take (i := 16) (v := ?_) rfl (by kernel_rfl) (by kernel_rfl) (by kernel_rfl) (fun _ _ _ h => h) (Or.inl ⟨by rfl, ?_⟩) (by assumption) ?_; rotate_left; (focus (intro w' hSw; go_simp; try with_reducible rfl)); (try simp only [List.getElem_toArray]); (try simp only [List.getElem_cons_succ]); (try simp only [List.getElem_cons_zero]); (try simp only [Act.put]); (try simp only [List.setIfInBounds_toArray]); (try simp only [List.set_cons_succ]); (try simp only [List.set_cons_zero]))
  (refine wpAnyH_take (i := 17) (v := ?_) rfl (by kernel_rfl) (by kernel_rfl) (by kernel_rfl) (fun _ _ _ h => h) (Or.inl ⟨by rfl, ?_⟩) (by assumption) ?_; rotate_left; (focus (intro w' hSw; go_simp; try with_reducible rfl)); (try simp only [List.getElem_toArray]); (try simp only [List.getElem_cons_succ]); (try simp only [List.getElem_cons_zero]); (try simp only [Act.put]); (try simp only [List.setIfInBounds_toArray]); (try simp only [List.set_cons_succ]); (try simp only [List.set_cons_zero]))
  refine wpAnyH_done (by kernel_rfl) ?_ _
  go_wp2
  go_ret
  exact ⟨rfl, Ext.trans E05 hHeld⟩
end Go.Proofs.Yteandiddfokfjaa
