/- Written by chain.py of KA20[fromproc_any] MA20 NA20 OA20[same_any] RA20. No condition. -/
import Derived.Test.YteljobleojhgmaaGreatTA21
import Derived.DeepKeys
import Derived.Laws.StructEq
namespace Go.Proofs.YteljobleojhgmaaGreat
open Go.RowKit Go.Kb

set_option maxRecDepth 100000 in
set_option maxHeartbeats 800000 in
theorem fromproc_any (p : Pr) (w : World) (hok : p.ok) :
    Calls Tryz.prog 29 #[.agg p.cells.toArray] w fun e w' => e = .returned (.agg p.cells.toArray) ∧ Ext w w' := by
  have hp3 := (pr_new w 42 hok).ext ((Ext.refl _).alloc (.cells #[.int .i64 0, .int .i64 0, .int .i64 0, .int .i64 0, .int .i64 0, .int .i64 0, .int .i64 0, .int .u64 0, .int .u64 0, .int .i64 0, .int .i64 0, .int .i64 0, .int .i64 0, .int .i64 0, .int .i64 0, .int .i64 0, .int .i64 0, .int .i64 0, .int .i64 0, .int .i64 0, .int .i64 0, .int .i64 0, .int .i64 0, .int .i64 0, .int .i64 0, .int .i64 0, .int .i64 0, .int .i64 0, .int .i64 0, .int .i64 0, .int .i64 0, .int .i64 0, .int .i64 0, .int .i64 0, .int .i64 0, .int .i64 0, .int .i64 0, .int .i64 0, .int .i64 0, .int .i64 0, .int .i64 0, .int .i64 0, .bool false] 64))
  have hz := Lib.hid (zero_rowR (w.alloc (.cells p.cells.toArray 42)) (w.heap.size + 1) (by simp))
  have hbl := Lib.hid (from_built hok)
  have hi := Lib.hid (show (Tryz.prog.info? 64).map (·.size) = some p.cells.toArray.size by rw [List.size_toArray]; exact i43r' hok)
  have hia := Lib.hid (i32a hok)
  have h43 := Lib.hid (show p.cells.toArray.size = 43 from Pr.size hok)
  have hone := Lib.hid (Pr.one hok)
  have hat := Lib.hid (acts_at hp3)
  have E0 : Ext w ((w.alloc (.cells p.cells.toArray 42)).alloc (.cells #[.int .i64 0, .int .i64 0, .int .i64 0, .int .i64 0, .int .i64 0, .int .i64 0, .int .i64 0, .int .u64 0, .int .u64 0, .int .i64 0, .int .i64 0, .int .i64 0, .int .i64 0, .int .i64 0, .int .i64 0, .int .i64 0, .int .i64 0, .int .i64 0, .int .i64 0, .int .i64 0, .int .i64 0, .int .i64 0, .int .i64 0, .int .i64 0, .int .i64 0, .int .i64 0, .int .i64 0, .int .i64 0, .int .i64 0, .int .i64 0, .int .i64 0, .int .i64 0, .int .i64 0, .int .i64 0, .int .i64 0, .int .i64 0, .int .i64 0, .int .i64 0, .int .i64 0, .int .i64 0, .int .i64 0, .int .i64 0, .bool false] 64)) := (by repeat (first | with_reducible exact Ext.refl _ | refine Ext.drewN ?_ _ | refine Ext.drew ?_ | refine Ext.alloc ?_ _ | assumption | (refine Below.trans ?_ (by assumption)) | (refine Ext.trans ?_ (by assumption)) | (refine Below.trans ?_ (Below.mono (by assumption) (by omega)))))
  obtain ⟨c0, c1, c2, c3, c4, c5, c6, c7, c8, -, c41, c42⟩ := hp3
  generalize p.cells.toArray = cs at *
  generalize (p.acts.map (Value.int .i64)) = acs at *
  clear hok
  go_enter Tryz.func29, Tryz.ntmps29
  go_wp2_with (first
    | (refine wpList_load_mid rfl 40 _ rfl w.heap.size (0 + 9) rfl acs _ hat.out Tryz.underlying40 rfl hia.out ?_)
    | (refine wpList_build_eq rfl 64 _ rfl (L := cs) ?_ ?_; (focus ((try simp [go_sem]); exact hbl.out)))
    | (refine wpList_store_A rfl 64 _ _ rfl (w.heap.size + 1) _ rfl rfl 64 _ hz.out hi.out (Eq.trans (b := 43) (by rfl) h43.out.symm) hone.out ?_; intro w2 H2 E2; have E2 : Ext w w2 := E2 w.heap.size w E0 (by omega)))
  refine bodyPost_ret_by (results_cell_row Tryz.results29 _ _ (w.heap.size + 1) 64 _ _ _ rfl H2 Tryz.underlying64 rfl hi.out) rfl ?_
  exact ⟨rfl, E2⟩
end Go.Proofs.YteljobleojhgmaaGreat
namespace Go.Proofs.YteljobleojhgmaaGreat
open Go.RowKit Go.Kb

set_option maxRecDepth 100000 in
set_option maxHeartbeats 800000 in
theorem from_any {A : Nat → Prop} (Ad : Option Addr) (c : Nat) (l : List Pr) (nx : Int) (w : World) (h : RdY Rp A w (.slice Ad l.length c) l) (hn : l.length ≤ 100000) :
    Calls Tryz.prog 13 #[tv Ad l.length c nx] w fun e w' => ∃ A' c', e = .returned (tv A' l.length c' nx) ∧ OwnS Rp 64 w.heap.size (fun _ => False) w' (.slice A' l.length c') l ∧ Ext w w' := by
  have H := Lib.hid (rdy_pr (B := fun _ => False) h)
  obtain ⟨_, _, hv, hc1, _⟩ := h.shape
  simp only [Value.slice.injEq] at hv
  obtain ⟨-, -, rfl⟩ := hv
  obtain ⟨N, hN⟩ : ∃ N, l.length = N := ⟨_, rfl⟩
  rw [hN] at H hn hc1 ⊢
  have HN := Lib.hid hN
  obtain ⟨W, hW⟩ : ∃ W, W = ((w.alloc (.cells #[.slice Ad N c, .int .i64 nx] 29)).alloc (.cells #[.slice none 0 0, .int .i64 0] 33)).alloc (.cells #[.slice none 0 0, .int .i64 nx] 33) := ⟨_, rfl⟩
  have hst := Lib.hid (show Blk W (w.heap.size + 1 + 1) 33 #[.slice none 0 0, .int .i64 nx] by rw [hW]; exact Blk.at_ _ _ (by simp))
  have hres := Lib.hid (show Blk W (w.heap.size + 1) 33 #[.slice none 0 0, .int .i64 0] by rw [hW]; exact (Blk.at_ _ _ (by simp)).alloc _)
  have E0 : Ext w W := by rw [hW]; exact (by repeat (first | with_reducible exact Ext.refl _ | refine Ext.drewN ?_ _ | refine Ext.drew ?_ | refine Ext.alloc ?_ _ | assumption | (refine Below.trans ?_ (by assumption)) | (refine Ext.trans ?_ (by assumption)) | (refine Below.trans ?_ (Below.mono (by assumption) (by omega)))))
  have hsz := Lib.hid (show W.heap.size = w.heap.size + 3 by rw [hW]; simp)
  have HW := Lib.hid hW
  clear h hN hW
  go_enter Tryz.func13, Tryz.ntmps13
  go_wp2
  rw [← HW.out]
  go_loopw [12] (fun i wr => ∃ (m c' : Nat) (A' : Option Addr), m ≤ N ∧ i = .int .i64 m ∧ Hid (Blk wr (w.heap.size + 1 + 1) 33 #[.slice A' m c', .int .i64 nx]) ∧ Hid (Blk wr (w.heap.size + 1) 33 #[.slice none 0 0, .int .i64 0]) ∧ Hid (OwnS Rp 64 (w.heap.size + 3) (fun _ => False) wr (.slice A' m c') (l.take m)) ∧ Hid (Ext w wr) ∧ w.heap.size + 3 ≤ wr.heap.size) (fun i _ => N - (intOf i).toNat)
  case atStart => exact ⟨0, 0, none, Nat.zero_le _, rfl, hst, hres, Lib.hid (OwnS.nil _ _ _ _ _), Lib.hid E0, by have := hsz.out; omega⟩
  case round =>
    clear hst hres
    obtain ⟨m, c', A', hm, rfl, hst, hres, O, hE, hws⟩ := hrel
    by_cases hmn : m < N
    · obtain ⟨b, off, p, rfl, hd, hok, hcell⟩ := pr_at (H.out.ext hE.out) hmn
      have HY := Lib.hid (show l.take (m + 1) = l.take m ++ [p] by rw [List.take_add_one, hd.out]; rfl)
      have HZ := Lib.hid (show (l.take m).length = m by rw [List.length_take]; have := HN.out; omega)
      have hp3 := Pr.len hok
      have hp4 := fold_pr hok
      clear hd
      go_wp2_with (first
        | (refine wpList_load_mid rfl 42 _ rfl b (off + m * 43) rfl p.cells _ hcell.out Tryz.underlying42 rfl (i43' hok) ?_)
        | ((refine wpList_store_A rfl 42 _ _ rfl (wr.heap.size) _ rfl rfl 42 _ (zero_row wr _ rfl) (by rw [List.size_toArray]; exact i43' hok) (Eq.trans (b := 43) (by rfl) (Eq.symm (show (p).cells.toArray.size = 43 from Pr.size hok))) (Pr.one hok) ?_); intro w4 H2 E4; have E4 : Ext wr w4 := E4 wr.heap.size wr ((Ext.refl wr).alloc _) (Nat.le_refl _)))
      have H2 := Lib.hid H2
      have hws4 := E4.size
      have hl4 := H2.out.lt
      have O4 := Lib.hid (O.out.ext E4)
      have hst4 := Lib.hid (hst.out.ext E4)
      have hres4 := Lib.hid (hres.out.ext E4)
      have E04 := Lib.hid (hE.out.trans E4)
      have hrw := Lib.hid O.out.row
      clear E4 O hst hres hE hcell
      have n1 : ∀ k, k < w.heap.size + 3 → ¬ (Value.slice A' m c').ownBlock = some k := fun k hk he => by have := (hrw.out k he).1; omega
      have n2 : ¬ (Value.slice A' m c').ownBlock = some wr.heap.size := fun he => by have := (hrw.out _ he).2; omega
      refine region_till 7 (fun w' => Mod (fun k => (Value.slice A' m c').ownBlock = some k) w4 w') (by kernel_rfl) (Mod.of_ext (Ext.drew (Ext.refl _))) (fun hHeld => ?_)
      (refine till_take (i := 0) (v := ?_) rfl (by kernel_rfl) (by kernel_rfl) (by kernel_rfl) (by kernel_rfl) (fun _ _ _ h => h) (Or.inl ⟨by rfl, ?_⟩) (by assumption) ?_; rotate_left; (focus (intro w' hSw; go_simp; try with_reducible rfl)); (try simp only [List.getElem_toArray]); (try simp only [List.getElem_cons_succ]); (try simp only [List.getElem_cons_zero]); (try simp only [Act.put]); (try simp only [List.setIfInBounds_toArray]); (try simp only [List.set_cons_succ]); (try simp only [List.set_cons_zero]))
      (refine till_take (i := 1) (v := ?_) rfl (by kernel_rfl) (by kernel_rfl) (by kernel_rfl) (by kernel_rfl) (fun _ _ _ h => h) (Or.inl ⟨by rfl, ?_⟩) (by assumption) ?_; rotate_left; (focus (intro w' hSw; have kc := (hst4.out.mod hSw (n1 _ (by omega))).two; go_simp; try with_reducible rfl)); (try simp only [List.getElem_toArray]); (try simp only [List.getElem_cons_succ]); (try simp only [List.getElem_cons_zero]); (try simp only [Act.put]); (try simp only [List.setIfInBounds_toArray]); (try simp only [List.set_cons_succ]); (try simp only [List.set_cons_zero]))
      (refine till_take (i := 2) (v := .agg p.cells.toArray) rfl (by kernel_rfl) (by kernel_rfl) (by kernel_rfl) (by kernel_rfl) (fun _ _ _ h => h) (yieldsIf_load_row (by rfl) 42 _ rfl _ rfl 42 p.cells.toArray _ _ (fun w' hSw => (H2.out.mod hSw n2)) Tryz.underlying42 rfl (by rw [List.size_toArray]; exact i43' hok)) (by assumption) ?_; (try simp only [Act.put]); (try simp only [List.getElem_toArray]); (try simp only [List.getElem_cons_succ]); (try simp only [List.getElem_cons_zero]); (try simp only [List.setIfInBounds_toArray]); (try simp only [List.set_cons_succ]); (try simp only [List.set_cons_zero]))
      (refine till_ready (rs := [3]) (by kernel_rfl) (by simp) ?_; refine AllTill.cons rfl (fun K hK => ?_) AllTill.nil; go_simp; go_at_call 29; refine (fromproc_any p _ hok).mono ?_; rintro e w5 ⟨rfl, E5⟩; (try dsimp only); refine hK.out _ _ (Mod.of_ext (Ext.trans (Ext.drew (Ext.refl w4)) E5)) (fun hHeld => ?_); clear hK K; (try simp only [Act.put]); (try simp only [List.getElem_toArray]); (try simp only [List.getElem_cons_succ]); (try simp only [List.getElem_cons_zero]); (try simp only [List.setIfInBounds_toArray]); (try simp only [List.set_cons_succ]); (try simp only [List.set_cons_zero]))
      have E45 : Ext w4 w5 := (Ext.drew (Ext.refl w4)).trans E5
      (refine till_ready (rs := [4]) (by kernel_rfl) (by simp) ?_; refine AllTill.cons rfl (fun K hK => ?_) AllTill.nil; go_simp; refine hK.out _ _ (Mod.of_ext (E45.alloc _)) (fun hHeld => ?_); clear hK K; (try simp only [Act.put]); (try simp only [List.getElem_toArray]); (try simp only [List.getElem_cons_succ]); (try simp only [List.getElem_cons_zero]); (try simp only [List.setIfInBounds_toArray]); (try simp only [List.set_cons_succ]); (try simp only [List.set_cons_zero]))
      refine till_ready (rs := [5]) (by kernel_rfl) (by simp) ?_
      refine AllTill.cons rfl (fun K hK => ?_) AllTill.nil
      refine step_app (e := Rp) (base := w.heap.size + 3) (B := fun _ => False) (A := fun _ => False) rfl (.tmp 17) (.tmp 20) rfl Tryz.underlying22 info_rp rfl (O4.out.ext (E45.alloc _)) rfl (RdY.singleB (cs := p.cells) (rp_rel (fun _ => False) _ hok) (Blk.at_ _ _ rfl)) rfl (fun _ _ h => h.elim) (N := m + 1) (by rw [HZ.out]; rfl) (by simp [maxLen]; omega) (by omega) (by have := E45.size; simp; omega) ?_
      intro A5 c5 w6 o5 M5 D5
      refine hK.out _ _ ((Mod.of_ext (E45.alloc _)).trans M5) (fun hHeld => ?_)
      clear hK K
      (try simp only [List.getElem_toArray]); (try simp only [List.getElem_cons_succ]); (try simp only [List.getElem_cons_zero]); (try simp only [Act.put]); (try simp only [List.setIfInBounds_toArray]); (try simp only [List.set_cons_succ]); (try simp only [List.set_cons_zero])
      (refine till_take (i := 6) (v := ?_) rfl (by kernel_rfl) (by kernel_rfl) (by kernel_rfl) (by kernel_rfl) (fun _ _ _ h => h) (Or.inl ⟨by rfl, ?_⟩) (by assumption) ?_; rotate_left; (focus (intro w' hSw; go_simp; try with_reducible rfl)); (try simp only [List.getElem_toArray]); (try simp only [List.getElem_cons_succ]); (try simp only [List.getElem_cons_zero]); (try simp only [Act.put]); (try simp only [List.setIfInBounds_toArray]); (try simp only [List.set_cons_succ]); (try simp only [List.set_cons_zero]))
      have hs6 := hst4.out.mod hHeld (n1 _ (by omega))
      have hr6 := hres4.out.mod hHeld (n1 _ (by omega))
      have hst2 := hs6.two
      (refine till_ready (rs := [7]) (by kernel_rfl) (by simp) ?_; refine AllTill.last rfl (fun K hK => ?_) AllTill.nil; go_simp; refine hK.out _ _ ?_; clear hK K; (try simp only [Act.put]); (try simp only [List.getElem_toArray]); (try simp only [List.getElem_cons_succ]); (try simp only [List.getElem_cons_zero]); (try simp only [List.setIfInBounds_toArray]); (try simp only [List.set_cons_succ]); (try simp only [List.set_cons_zero]))
      refine till_done (by kernel_rfl) ?_ _
      have E06 : Ext w w6 := Mod.toExt E04.out hHeld (fun k hk => n1 k (by omega))
      have hz6 := E06.size
      have hzz := hHeld.size
      have hrw5 := o5.row
      have M6 : Mod (fun k => k = w.heap.size + 1 + 1) w6 (w6.setCell ⟨w.heap.size + 1 + 1, 0, none⟩ (.slice A5 (m + 1) c5)) := (Mod.refl _ _).set1 _
      have B6 := Lib.hid (hs6.set_ 0 (.slice A5 (m + 1) c5))
      have R6 := Lib.hid (hr6.mod M6 (by show ¬ _ = _; omega))
      have O6 := Lib.hid (o5.mod M6 (fun k hk he => by have := (hrw5 k hk).1; omega) (fun k _ hk he => hk))
      have E6 := Lib.hid (Mod.toExt E06 M6 (by intro k hk he; omega))
      have hz7 := M6.size
      clear M5 D5 M6 hrw5 o5 E06 hr6 hs6
      go_wp2
      go_roundw
      case rel => exact ⟨m + 1, c5, A5, by omega, by go_num, B6, R6, by rw [HY.out]; exact O6, E6, by omega⟩
      case measure => simp [intOf]; omega
    · obtain rfl : m = N := by omega
      have hf : l.take m = l := List.take_of_length_le (by have := HN.out; omega)
      rw [hf] at O
      have hst2 := hst.out.two
      have ks := hres.out.two
      have hrw := O.out.row
      have M6 : Mod (fun k => k = w.heap.size + 1) wr _ := ((Mod.refl _ wr).set1 (.slice A' m c') (o := 0)).set1 (.int .i64 nx) (o := 1)
      obtain ⟨q0, q1, _, _⟩ := (hres.out.put2 (.slice A' m c') (.int .i64 nx)).two
      have hrw := Lib.hid hrw
      clear hf
      go_wp2
      refine bodyPost_ret (v := tv A' m c' nx) (by simp [results, Tryz.results13, go_sem, q0, q1]) rfl ?_
      exact ⟨A', c', rfl, (O.out.mod M6 (fun k hk he => by have := (hrw.out k hk).1; omega) (fun k _ hk _ => hk)).lower (by omega), Mod.toExt hE.out M6 (by intro k hk he; omega)⟩
end Go.Proofs.YteljobleojhgmaaGreat
namespace Go.Proofs.YteljobleojhgmaaGreat
open Go.RowKit Go.Kb
set_option linter.unusedSimpArgs false

/-- its numbers fit -/
def Pr.wf (p : Pr) : Prop := (Lit.int .i64 p.pid).wf = true ∧ (Lit.int .i64 p.parent).wf = true ∧ (Lit.int .i64 p.group).wf = true ∧ (Lit.int .i64 p.session).wf = true ∧ (Lit.int .i64 p.state).wf = true ∧ (Lit.int .i64 p.prog).wf = true ∧ (Lit.int .i64 p.pc).wf = true ∧ (Lit.int .u64 p.pending).wf = true ∧ (Lit.int .u64 p.mask).wf = true ∧ (∀ x ∈ p.acts, (Lit.int .i64 x).wf = true) ∧ (Lit.int .i64 p.status).wf = true
def Pr.lits (p : Pr) : List Lit := [.int .i64 p.pid, .int .i64 p.parent, .int .i64 p.group, .int .i64 p.session, .int .i64 p.state, .int .i64 p.prog, .int .i64 p.pc, .int .u64 p.pending, .int .u64 p.mask] ++ (p.acts.map (Lit.int .i64) ++ [.int .i64 p.status, .bool p.told])
set_option maxRecDepth 100000 in
theorem rpr_acts {a : List Int} (hl : a.length = 32) (hw : ∀ x ∈ a, (Lit.int .i64 x).wf = true) (d : Nat) : Tryz.prog.keyLits (d + 2) 39 (a.map (Value.int .i64)) = some (a.map (Lit.int .i64)) := by
  have c1 : Tryz.prog.cellsOf 3 = 1 := by kernel_rfl
  have c32 : Tryz.prog.cellsOf 39 = 32 := by kernel_rfl
  have lit : ∀ {x : Int}, (Lit.int .i64 x).wf = true → Tryz.prog.keyLits (d + 1) 3 [.int .i64 x] = some [Lit.int .i64 x] := fun h => by simp [Program.keyLits, Tryz.underlying3, h]
  obtain ⟨x0, x1, x2, x3, x4, x5, x6, x7, x8, x9, x10, x11, x12, x13, x14, x15, x16, x17, x18, x19, x20, x21, x22, x23, x24, x25, x26, x27, x28, x29, x30, x31, rfl⟩ : ∃ x0 x1 x2 x3 x4 x5 x6 x7 x8 x9 x10 x11 x12 x13 x14 x15 x16 x17 x18 x19 x20 x21 x22 x23 x24 x25 x26 x27 x28 x29 x30 x31, a = [x0, x1, x2, x3, x4, x5, x6, x7, x8, x9, x10, x11, x12, x13, x14, x15, x16, x17, x18, x19, x20, x21, x22, x23, x24, x25, x26, x27, x28, x29, x30, x31] := by
    match a, hl with
    | [x0, x1, x2, x3, x4, x5, x6, x7, x8, x9, x10, x11, x12, x13, x14, x15, x16, x17, x18, x19, x20, x21, x22, x23, x24, x25, x26, x27, x28, x29, x30, x31], _ => exact ⟨x0, x1, x2, x3, x4, x5, x6, x7, x8, x9, x10, x11, x12, x13, x14, x15, x16, x17, x18, x19, x20, x21, x22, x23, x24, x25, x26, x27, x28, x29, x30, x31, rfl⟩
  simp only [List.mem_cons, List.not_mem_nil, or_false, forall_eq_or_imp, forall_eq] at hw
  obtain ⟨h0, h1, h2, h3, h4, h5, h6, h7, h8, h9, h10, h11, h12, h13, h14, h15, h16, h17, h18, h19, h20, h21, h22, h23, h24, h25, h26, h27, h28, h29, h30, h31⟩ := hw
  unfold Program.keyLits
  simp [Tryz.underlying39, c1, c32, List.range, List.range.loop, lit h0, lit h1, lit h2, lit h3, lit h4, lit h5, lit h6, lit h7, lit h8, lit h9, lit h10, lit h11, lit h12, lit h13, lit h14, lit h15, lit h16, lit h17, lit h18, lit h19, lit h20, lit h21, lit h22, lit h23, lit h24, lit h25, lit h26, lit h27, lit h28, lit h29, lit h30, lit h31]
set_option maxRecDepth 100000 in
theorem tpr_acts {a : List Int} (hl : a.length = 32) (hw : ∀ x ∈ a, (Lit.int .i64 x).wf = true) (d : Nat) : Tryz.prog.keyLits (d + 2) 40 (a.map (Value.int .i64)) = some (a.map (Lit.int .i64)) := by
  have c1 : Tryz.prog.cellsOf 3 = 1 := by kernel_rfl
  have c32 : Tryz.prog.cellsOf 40 = 32 := by kernel_rfl
  have lit : ∀ {x : Int}, (Lit.int .i64 x).wf = true → Tryz.prog.keyLits (d + 1) 3 [.int .i64 x] = some [Lit.int .i64 x] := fun h => by simp [Program.keyLits, Tryz.underlying3, h]
  obtain ⟨x0, x1, x2, x3, x4, x5, x6, x7, x8, x9, x10, x11, x12, x13, x14, x15, x16, x17, x18, x19, x20, x21, x22, x23, x24, x25, x26, x27, x28, x29, x30, x31, rfl⟩ : ∃ x0 x1 x2 x3 x4 x5 x6 x7 x8 x9 x10 x11 x12 x13 x14 x15 x16 x17 x18 x19 x20 x21 x22 x23 x24 x25 x26 x27 x28 x29 x30 x31, a = [x0, x1, x2, x3, x4, x5, x6, x7, x8, x9, x10, x11, x12, x13, x14, x15, x16, x17, x18, x19, x20, x21, x22, x23, x24, x25, x26, x27, x28, x29, x30, x31] := by
    match a, hl with
    | [x0, x1, x2, x3, x4, x5, x6, x7, x8, x9, x10, x11, x12, x13, x14, x15, x16, x17, x18, x19, x20, x21, x22, x23, x24, x25, x26, x27, x28, x29, x30, x31], _ => exact ⟨x0, x1, x2, x3, x4, x5, x6, x7, x8, x9, x10, x11, x12, x13, x14, x15, x16, x17, x18, x19, x20, x21, x22, x23, x24, x25, x26, x27, x28, x29, x30, x31, rfl⟩
  simp only [List.mem_cons, List.not_mem_nil, or_false, forall_eq_or_imp, forall_eq] at hw
  obtain ⟨h0, h1, h2, h3, h4, h5, h6, h7, h8, h9, h10, h11, h12, h13, h14, h15, h16, h17, h18, h19, h20, h21, h22, h23, h24, h25, h26, h27, h28, h29, h30, h31⟩ := hw
  unfold Program.keyLits
  simp [Tryz.underlying40, c1, c32, List.range, List.range.loop, lit h0, lit h1, lit h2, lit h3, lit h4, lit h5, lit h6, lit h7, lit h8, lit h9, lit h10, lit h11, lit h12, lit h13, lit h14, lit h15, lit h16, lit h17, lit h18, lit h19, lit h20, lit h21, lit h22, lit h23, lit h24, lit h25, lit h26, lit h27, lit h28, lit h29, lit h30, lit h31]
set_option maxRecDepth 100000 in
theorem rpr_lits {p : Pr} (h : p.ok) (hw : p.wf) (d : Nat) : Tryz.prog.keyLits (d + 3) 64 p.cells = some p.lits := by
  have h32 : p.acts.length = 32 := h
  obtain ⟨w0, w1, w2, w3, w4, w5, w6, w7, w8, wa, w10⟩ := hw
  have cT : Tryz.prog.cellsOf 64 = 43 := by kernel_rfl
  have cA : Tryz.prog.cellsOf 39 = 32 := by kernel_rfl
  have c1 : Tryz.prog.cellsOf 3 = 1 := by kernel_rfl
  have c2 : Tryz.prog.cellsOf 37 = 1 := by kernel_rfl
  have c3 : Tryz.prog.cellsOf 4 = 1 := by kernel_rfl
  have c4 : Tryz.prog.cellsOf 39 = 32 := by kernel_rfl
  have li : ∀ {x : Int}, (Lit.int .i64 x).wf = true → Tryz.prog.keyLits (d + 2) 3 [.int .i64 x] = some [Lit.int .i64 x] := fun hx => by simp [Program.keyLits, Tryz.underlying3, hx]
  have lu : ∀ {x : Int}, (Lit.int .u64 x).wf = true → Tryz.prog.keyLits (d + 2) 37 [.int .u64 x] = some [Lit.int .u64 x] := fun hx => by simp [Program.keyLits, Tryz.underlying37, hx]
  have lb : Tryz.prog.keyLits (d + 2) 4 [.bool p.told] = some [Lit.bool p.told] := by simp [Program.keyLits, Tryz.underlying4]
  have la : Tryz.prog.keyLits (d + 2) 39 (p.acts.map (Value.int .i64)) = some (p.acts.map (Lit.int .i64)) := rpr_acts h32 wa d
  have hlen : p.cells.length = 43 := Pr.len h
  have e0 : (p.cells.drop 0).take 1 = [.int .i64 p.pid] := rfl
  have e1 : p.cells.tail.take 1 = [.int .i64 p.parent] := rfl
  have e2 : (p.cells.drop 2).take 1 = [.int .i64 p.group] := rfl
  have e3 : (p.cells.drop 3).take 1 = [.int .i64 p.session] := rfl
  have e4 : (p.cells.drop 4).take 1 = [.int .i64 p.state] := rfl
  have e5 : (p.cells.drop 5).take 1 = [.int .i64 p.prog] := rfl
  have e6 : (p.cells.drop 6).take 1 = [.int .i64 p.pc] := rfl
  have e7 : (p.cells.drop 7).take 1 = [.int .u64 p.pending] := rfl
  have e8 : (p.cells.drop 8).take 1 = [.int .u64 p.mask] := rfl
  have e9 : (p.cells.drop 9).take 32 = p.acts.map (Value.int .i64) := by
    show ((p.acts.map (Value.int .i64)) ++ ([Value.int .i64 p.status, Value.bool p.told] : List Value)).take 32 = _
    rw [List.take_left' (by simp [h32])]
  have e41 : (p.cells.drop 41).take 1 = [.int .i64 p.status] := by
    show (((p.acts.map (Value.int .i64)) ++ ([Value.int .i64 p.status, Value.bool p.told] : List Value)).drop 32).take 1 = _
    rw [List.drop_left' (by simp [h32])]; rfl
  have e42 : (p.cells.drop 42).take 1 = [.bool p.told] := by
    show (((p.acts.map (Value.int .i64)) ++ ([Value.int .i64 p.status, Value.bool p.told] : List Value)).drop 33).take 1 = _
    rw [show 33 = 32 + 1 by rfl, ← List.drop_drop, List.drop_left' (by simp [h32])]; rfl
  rw [List.drop_zero] at e0
  unfold Program.keyLits
  simp [Tryz.underlying64, cT, cA, c1, c2, c3, c4, hlen, e0, e1, e2, e3, e4, e5, e6, e7, e8, e9, e41, e42, la, lb, li w0, li w1, li w2, li w3, li w4, li w5, li w6, lu w7, lu w8, li w10, Pr.lits]
set_option maxRecDepth 100000 in
theorem rpr_eql {p : Pr} (h : p.ok) (hw : p.wf) (w : World) : (Op.equalIn 10000 64 (.agg p.cells.toArray) (.agg p.cells.toArray)).run Tryz.prog w = .ok true w := by
  have hk : Tryz.prog.keyTypeAt 3 64 = true := by kernel_rfl
  have cT : Tryz.prog.cellsOf 64 = 43 := by kernel_rfl
  have hf : (Value.agg p.cells.toArray).formed Tryz.prog 64 = true := by
    simp [Value.formed, Tryz.underlying64, Pr.len h, cT]
  obtain ⟨r, hr, hiff⟩ := run_equalIn_deep (P := Tryz.prog) 9997 3 64 hk w 3 3 (.agg p.cells.toArray) (.agg p.cells.toArray) p.lits p.lits hf hf (rpr_lits h hw 0) (rpr_lits h hw 0)
  rw [hr]
  congr 1
  exact hiff.2 rfl
theorem rpr_guard : Tryz.prog.eqGuardType Tryz.prog.depth 64 = false := by kernel_rfl
set_option maxRecDepth 100000 in
theorem tpr_lits {p : Pr} (h : p.ok) (hw : p.wf) (d : Nat) : Tryz.prog.keyLits (d + 3) 42 p.cells = some p.lits := by
  have h32 : p.acts.length = 32 := h
  obtain ⟨w0, w1, w2, w3, w4, w5, w6, w7, w8, wa, w10⟩ := hw
  have cT : Tryz.prog.cellsOf 42 = 43 := by kernel_rfl
  have cA : Tryz.prog.cellsOf 40 = 32 := by kernel_rfl
  have c1 : Tryz.prog.cellsOf 3 = 1 := by kernel_rfl
  have c2 : Tryz.prog.cellsOf 38 = 1 := by kernel_rfl
  have c3 : Tryz.prog.cellsOf 4 = 1 := by kernel_rfl
  have c4 : Tryz.prog.cellsOf 39 = 32 := by kernel_rfl
  have li : ∀ {x : Int}, (Lit.int .i64 x).wf = true → Tryz.prog.keyLits (d + 2) 3 [.int .i64 x] = some [Lit.int .i64 x] := fun hx => by simp [Program.keyLits, Tryz.underlying3, hx]
  have lu : ∀ {x : Int}, (Lit.int .u64 x).wf = true → Tryz.prog.keyLits (d + 2) 38 [.int .u64 x] = some [Lit.int .u64 x] := fun hx => by simp [Program.keyLits, Tryz.underlying38, hx]
  have lb : Tryz.prog.keyLits (d + 2) 4 [.bool p.told] = some [Lit.bool p.told] := by simp [Program.keyLits, Tryz.underlying4]
  have la : Tryz.prog.keyLits (d + 2) 40 (p.acts.map (Value.int .i64)) = some (p.acts.map (Lit.int .i64)) := tpr_acts h32 wa d
  have hlen : p.cells.length = 43 := Pr.len h
  have e0 : (p.cells.drop 0).take 1 = [.int .i64 p.pid] := rfl
  have e1 : p.cells.tail.take 1 = [.int .i64 p.parent] := rfl
  have e2 : (p.cells.drop 2).take 1 = [.int .i64 p.group] := rfl
  have e3 : (p.cells.drop 3).take 1 = [.int .i64 p.session] := rfl
  have e4 : (p.cells.drop 4).take 1 = [.int .i64 p.state] := rfl
  have e5 : (p.cells.drop 5).take 1 = [.int .i64 p.prog] := rfl
  have e6 : (p.cells.drop 6).take 1 = [.int .i64 p.pc] := rfl
  have e7 : (p.cells.drop 7).take 1 = [.int .u64 p.pending] := rfl
  have e8 : (p.cells.drop 8).take 1 = [.int .u64 p.mask] := rfl
  have e9 : (p.cells.drop 9).take 32 = p.acts.map (Value.int .i64) := by
    show ((p.acts.map (Value.int .i64)) ++ ([Value.int .i64 p.status, Value.bool p.told] : List Value)).take 32 = _
    rw [List.take_left' (by simp [h32])]
  have e41 : (p.cells.drop 41).take 1 = [.int .i64 p.status] := by
    show (((p.acts.map (Value.int .i64)) ++ ([Value.int .i64 p.status, Value.bool p.told] : List Value)).drop 32).take 1 = _
    rw [List.drop_left' (by simp [h32])]; rfl
  have e42 : (p.cells.drop 42).take 1 = [.bool p.told] := by
    show (((p.acts.map (Value.int .i64)) ++ ([Value.int .i64 p.status, Value.bool p.told] : List Value)).drop 33).take 1 = _
    rw [show 33 = 32 + 1 by rfl, ← List.drop_drop, List.drop_left' (by simp [h32])]; rfl
  rw [List.drop_zero] at e0
  unfold Program.keyLits
  simp [Tryz.underlying42, cT, cA, c1, c2, c3, c4, hlen, e0, e1, e2, e3, e4, e5, e6, e7, e8, e9, e41, e42, la, lb, li w0, li w1, li w2, li w3, li w4, li w5, li w6, lu w7, lu w8, li w10, Pr.lits]
set_option maxRecDepth 100000 in
theorem tpr_eql {p : Pr} (h : p.ok) (hw : p.wf) (w : World) : (Op.equalIn 10000 42 (.agg p.cells.toArray) (.agg p.cells.toArray)).run Tryz.prog w = .ok true w := by
  have hk : Tryz.prog.keyTypeAt 3 42 = true := by kernel_rfl
  have cT : Tryz.prog.cellsOf 42 = 43 := by kernel_rfl
  have hf : (Value.agg p.cells.toArray).formed Tryz.prog 42 = true := by
    simp [Value.formed, Tryz.underlying42, Pr.len h, cT]
  obtain ⟨r, hr, hiff⟩ := run_equalIn_deep (P := Tryz.prog) 9997 3 42 hk w 3 3 (.agg p.cells.toArray) (.agg p.cells.toArray) p.lits p.lits hf hf (tpr_lits h hw 0) (tpr_lits h hw 0)
  rw [hr]
  congr 1
  exact hiff.2 rfl
theorem tpr_guard : Tryz.prog.eqGuardType Tryz.prog.depth 42 = false := by kernel_rfl
theorem wpList_eql_struct {P : Program} {ops : Array Oper} {rest : List Oper} {o : Oper} {a : Act} {w : World} {Q : Exit → Act → World → Prop} (hgd : o.guard = none) (t : TypeId) (x y : Operand) (ho : o.op = .binOp .eql t x y t)
    (cx cy : Array Value) (hx : a.eval x = .agg cx) (hy : a.eval y = .agg cy) (r : Bool) (hm : P.eqGuardType P.depth t = false)
    (hr : (Op.equalIn 10000 t (.agg cx) (.agg cy)).run P w = .ok r w) (h : wpList P ops Q rest (a.put o.dst (.bool r)) w) : wpList P ops Q (o :: rest) a w :=
  wpList_plain hgd fun a' hK => by
    unfold Oper.wp execOp
    simp only [ho, hx, hy, Sem.run_bind, Sem.run_pure, Result.andThen_ok, run_eqGuard_agg w .eql t x y cx cy hm, run_eql_struct, hr]
    exact hK _ _ h
theorem wpList_neq_struct {P : Program} {ops : Array Oper} {rest : List Oper} {o : Oper} {a : Act} {w : World} {Q : Exit → Act → World → Prop} (hgd : o.guard = none) (t : TypeId) (x y : Operand) (ho : o.op = .binOp .neq t x y t)
    (cx cy : Array Value) (hx : a.eval x = .agg cx) (hy : a.eval y = .agg cy) (r : Bool) (hm : P.eqGuardType P.depth t = false)
    (hr : (Op.equalIn 10000 t (.agg cx) (.agg cy)).run P w = .ok r w) (h : wpList P ops Q rest (a.put o.dst (.bool (!r))) w) : wpList P ops Q (o :: rest) a w :=
  wpList_plain hgd fun a' hK => by
    unfold Oper.wp execOp
    simp only [ho, hx, hy, Sem.run_bind, Sem.run_pure, Result.andThen_ok, run_eqGuard_agg w .neq t x y cx cy hm, run_neq_struct, hr]
    exact hK _ _ h
theorem yieldsIf_eql_struct {P : Program} {ops : Array Oper} {S : World → Prop} {op : Oper} {a : Act} (hw : Region.wanted op (yielded ops a.tmps) = true) (t : TypeId) (x y : Operand) (ho : op.op = .binOp .eql t x y t)
    (cx cy : Array Value) (hx : a.eval x = .agg cx) (hy : a.eval y = .agg cy) (r : Bool) (hm : P.eqGuardType P.depth t = false)
    (hr : ∀ w, (Op.equalIn 10000 t (.agg cx) (.agg cy)).run P w = .ok r w) : YieldsIf P ops S op (.bool r) a :=
  .inl ⟨hw, fun w _ => by
    unfold execOp
    simp only [ho, hx, hy, Sem.run_bind, Sem.run_pure, Result.andThen_ok, run_eqGuard_agg w .eql t x y cx cy hm, run_eql_struct, hr w]⟩
theorem yieldsIf_neq_struct {P : Program} {ops : Array Oper} {S : World → Prop} {op : Oper} {a : Act} (hw : Region.wanted op (yielded ops a.tmps) = true) (t : TypeId) (x y : Operand) (ho : op.op = .binOp .neq t x y t)
    (cx cy : Array Value) (hx : a.eval x = .agg cx) (hy : a.eval y = .agg cy) (r b : Bool) (hb : b = !r) (hm : P.eqGuardType P.depth t = false)
    (hr : ∀ w, (Op.equalIn 10000 t (.agg cx) (.agg cy)).run P w = .ok r w) : YieldsIf P ops S op (.bool b) a :=
  .inl ⟨hw, fun w _ => by
    subst hb
    unfold execOp
    simp only [ho, hx, hy, Sem.run_bind, Sem.run_pure, Result.andThen_ok, run_eqGuard_agg w .neq t x y cx cy hm, run_neq_struct, hr w]⟩
end Go.Proofs.YteljobleojhgmaaGreat
namespace Go.Proofs.YteljobleojhgmaaGreat
open Go.RowKit Go.Kb

set_option maxRecDepth 100000 in
set_option maxHeartbeats 800000 in
theorem same_any {A B : Nat → Prop} (Ad Bd : Option Addr) (c d : Nat) (l : List Pr) (nx : Int) (w : World) (h : RdY Rp A w (.slice Ad l.length c) l) (g : RdY Rp B w (.slice Bd l.length d) l) (hw : ∀ p ∈ l, p.wf) :
    Calls Tryz.prog 25 #[tv Ad l.length c nx, tv Bd l.length d nx] w fun e w' => e = .returned (.bool true) ∧ Ext w w' := by
  have H := Lib.hid (rdy_pr (B := fun _ => False) h)
  have G := Lib.hid (rdy_pr (B := fun _ => False) g)
  obtain ⟨_, _, hv, hc1, hc2⟩ := h.shape
  simp only [Value.slice.injEq] at hv
  obtain ⟨-, -, rfl⟩ := hv
  obtain ⟨N, hN⟩ : ∃ N, l.length = N := ⟨_, rfl⟩
  rw [hN] at H G hc1 ⊢
  have HN := Lib.hid hN
  have HWF := Lib.hid hw
  obtain ⟨W, hW⟩ : ∃ W, W = (w.alloc (.cells #[.slice Ad N c, .int .i64 nx] 33)).alloc (.cells #[.slice Bd N d, .int .i64 nx] 33) := ⟨_, rfl⟩
  have hb := Lib.hid (show Blk W (w.heap.size + 1) 33 #[.slice Bd N d, .int .i64 nx] by rw [hW]; exact Blk.at_ _ _ (by simp))
  have ha := Lib.hid (show Blk W w.heap.size 33 #[.slice Ad N c, .int .i64 nx] by rw [hW]; exact (Blk.new w _ _).alloc _)
  have E0 : Ext w W := by rw [hW]; exact (by repeat (first | with_reducible exact Ext.refl _ | refine Ext.drewN ?_ _ | refine Ext.drew ?_ | refine Ext.alloc ?_ _ | assumption | (refine Below.trans ?_ (by assumption)) | (refine Ext.trans ?_ (by assumption)) | (refine Below.trans ?_ (Below.mono (by assumption) (by omega)))))
  have HW := Lib.hid hW
  clear h g hN hw hW
  go_enter Tryz.func25, Tryz.ntmps25
  go_wp2
  rw [← HW.out]
  go_loopw [23] (fun i wr => ∃ m : Nat, m ≤ N ∧ i = .int .i64 m ∧ Ext W wr) (fun i _ => N - (intOf i).toNat)
  case atStart => exact ⟨0, Nat.zero_le _, rfl, Ext.refl _⟩
  case round =>
    obtain ⟨m, hm, rfl, hE⟩ := hrel
    by_cases hmn : m < N
    · obtain ⟨b, off, p, rfl, hd, hok, hcell⟩ := pr_at (H.out.ext (E0.trans hE)) hmn
      obtain ⟨b2, off2, p2, rfl, hd2, hok2, hcell2⟩ := pr_at (G.out.ext (E0.trans hE)) hmn
      obtain rfl : p2 = p := by have := hd.out; rw [hd2.out] at this; exact Option.some.inj this
      have hwf := HWF.out p2 (List.mem_of_getElem? hd.out)
      have HEQ := Lib.hid (fun w => rpr_eql hok hwf w)
      have hb3 := Lib.hid (hb.out.ext hE)
      have ha3 := Lib.hid (ha.out.ext hE)
      have hm1 : (0 : Int) ≤ (m : Int) := by omega
      have hm2 : (m : Int) < (N : Int) := by omega
      clear hd hd2 hwf
      go_wp2
      refine wp_region_held_drew (S := fun w' => Ext wr w') (by kernel_rfl) (Ext.drew (Ext.refl _)) (fun hHeld => ?_)
      (refine wpAnyH_take (i := 0) (v := ?_) rfl (by kernel_rfl) (by kernel_rfl) (by kernel_rfl) (fun _ _ _ h => h) (Or.inl ⟨by rfl, ?_⟩) (by assumption) ?_; rotate_left; (focus (intro w' hSw; go_simp; try with_reducible rfl)); (try simp only [List.getElem_toArray]); (try simp only [List.getElem_cons_succ]); (try simp only [List.getElem_cons_zero]); (try simp only [Act.put]); (try simp only [List.setIfInBounds_toArray]); (try simp only [List.set_cons_succ]); (try simp only [List.set_cons_zero]))
      (refine wpAnyH_take (i := 1) (v := ?_) rfl (by kernel_rfl) (by kernel_rfl) (by kernel_rfl) (fun _ _ _ h => h) (Or.inl ⟨by rfl, ?_⟩) (by assumption) ?_; rotate_left; (focus (intro w' hSw; have kc := (ha3.out.ext hSw).two; go_simp; try with_reducible rfl)); (try simp only [List.getElem_toArray]); (try simp only [List.getElem_cons_succ]); (try simp only [List.getElem_cons_zero]); (try simp only [Act.put]); (try simp only [List.setIfInBounds_toArray]); (try simp only [List.set_cons_succ]); (try simp only [List.set_cons_zero]))
      (refine wpAnyH_take (i := 2) (v := ?_) rfl (by kernel_rfl) (by kernel_rfl) (by kernel_rfl) (fun _ _ _ h => h) (Or.inl ⟨by rfl, ?_⟩) (by assumption) ?_; rotate_left; (focus (intro w' hSw; go_simp; try with_reducible rfl)); (try simp only [List.getElem_toArray]); (try simp only [List.getElem_cons_succ]); (try simp only [List.getElem_cons_zero]); (try simp only [Act.put]); (try simp only [List.setIfInBounds_toArray]); (try simp only [List.set_cons_succ]); (try simp only [List.set_cons_zero]))
      (refine wpAnyH_take (i := 3) (v := ?_) rfl (by kernel_rfl) (by kernel_rfl) (by kernel_rfl) (fun _ _ _ h => h) (Or.inl ⟨by rfl, ?_⟩) (by assumption) ?_; rotate_left; (focus (intro w' hSw; go_simp; try with_reducible rfl)); (try simp only [List.getElem_toArray]); (try simp only [List.getElem_cons_succ]); (try simp only [List.getElem_cons_zero]); (try simp only [Act.put]); (try simp only [List.setIfInBounds_toArray]); (try simp only [List.set_cons_succ]); (try simp only [List.set_cons_zero]))
      (refine wpAnyH_take (i := 4) (v := .agg p2.cells.toArray) rfl (by kernel_rfl) (by kernel_rfl) (by kernel_rfl) (fun _ _ _ h => h) (yieldsIf_load_mid (by rfl) 64 _ rfl _ _ rfl p2.cells _ (fun w' hSw => (fun i u hu => cell_ext hSw (hcell.out i u hu))) Tryz.underlying64 rfl (i43r' hok)) (by assumption) ?_; (try simp only [List.getElem_toArray]); (try simp only [List.getElem_cons_succ]); (try simp only [List.getElem_cons_zero]); (try simp only [Act.put]); (try simp only [List.setIfInBounds_toArray]); (try simp only [List.set_cons_succ]); (try simp only [List.set_cons_zero]))
      (refine wpAnyH_take (i := 5) (v := ?_) rfl (by kernel_rfl) (by kernel_rfl) (by kernel_rfl) (fun _ _ _ h => h) (Or.inl ⟨by rfl, ?_⟩) (by assumption) ?_; rotate_left; (focus (intro w' hSw; go_simp; try with_reducible rfl)); (try simp only [List.getElem_toArray]); (try simp only [List.getElem_cons_succ]); (try simp only [List.getElem_cons_zero]); (try simp only [Act.put]); (try simp only [List.setIfInBounds_toArray]); (try simp only [List.set_cons_succ]); (try simp only [List.set_cons_zero]))
      (refine wpAnyH_take (i := 6) (v := ?_) rfl (by kernel_rfl) (by kernel_rfl) (by kernel_rfl) (fun _ _ _ h => h) (Or.inl ⟨by rfl, ?_⟩) (by assumption) ?_; rotate_left; (focus (intro w' hSw; have kc := (hb3.out.ext hSw).two; go_simp; try with_reducible rfl)); (try simp only [List.getElem_toArray]); (try simp only [List.getElem_cons_succ]); (try simp only [List.getElem_cons_zero]); (try simp only [Act.put]); (try simp only [List.setIfInBounds_toArray]); (try simp only [List.set_cons_succ]); (try simp only [List.set_cons_zero]))
      (refine wpAnyH_take (i := 7) (v := ?_) rfl (by kernel_rfl) (by kernel_rfl) (by kernel_rfl) (fun _ _ _ h => h) (Or.inl ⟨by rfl, ?_⟩) (by assumption) ?_; rotate_left; (focus (intro w' hSw; go_simp; try with_reducible rfl)); (try simp only [List.getElem_toArray]); (try simp only [List.getElem_cons_succ]); (try simp only [List.getElem_cons_zero]); (try simp only [Act.put]); (try simp only [List.setIfInBounds_toArray]); (try simp only [List.set_cons_succ]); (try simp only [List.set_cons_zero]))
      (refine wpAnyH_take (i := 8) (v := ?_) rfl (by kernel_rfl) (by kernel_rfl) (by kernel_rfl) (fun _ _ _ h => h) (Or.inl ⟨by rfl, ?_⟩) (by assumption) ?_; rotate_left; (focus (intro w' hSw; go_simp; try with_reducible rfl)); (try simp only [List.getElem_toArray]); (try simp only [List.getElem_cons_succ]); (try simp only [List.getElem_cons_zero]); (try simp only [Act.put]); (try simp only [List.setIfInBounds_toArray]); (try simp only [List.set_cons_succ]); (try simp only [List.set_cons_zero]))
      (refine wpAnyH_take (i := 9) (v := .agg p2.cells.toArray) rfl (by kernel_rfl) (by kernel_rfl) (by kernel_rfl) (fun _ _ _ h => h) (yieldsIf_load_mid (by rfl) 64 _ rfl _ _ rfl p2.cells _ (fun w' hSw => (fun i u hu => cell_ext hSw (hcell2.out i u hu))) Tryz.underlying64 rfl (i43r' hok)) (by assumption) ?_; (try simp only [List.getElem_toArray]); (try simp only [List.getElem_cons_succ]); (try simp only [List.getElem_cons_zero]); (try simp only [Act.put]); (try simp only [List.setIfInBounds_toArray]); (try simp only [List.set_cons_succ]); (try simp only [List.set_cons_zero]))
      (refine wpAnyH_take (i := 10) (v := .bool false) rfl (by kernel_rfl) (by kernel_rfl) (by kernel_rfl) (fun _ _ _ h => h) (yieldsIf_neq_struct (by rfl) 64 _ _ rfl p2.cells.toArray p2.cells.toArray rfl rfl true false rfl rpr_guard HEQ.out) (by assumption) ?_; (try simp only [List.getElem_toArray]); (try simp only [List.getElem_cons_succ]); (try simp only [List.getElem_cons_zero]); (try simp only [Act.put]); (try simp only [List.setIfInBounds_toArray]); (try simp only [List.set_cons_succ]); (try simp only [List.set_cons_zero]))
      refine wpAnyH_done (by kernel_rfl) ?_ _
      have E5 : Ext W wr.drew := Ext.drew hE
      generalize p2.cells.toArray = cs at *
      go_wp2
      go_roundw
      case rel => exact ⟨m + 1, by omega, by go_num, E5⟩
      case measure => simp [intOf]; omega
    · go_wp2
      go_ret
      exact ⟨rfl, E0.trans hE⟩
end Go.Proofs.YteljobleojhgmaaGreat
namespace Go.Proofs.YteljobleojhgmaaGreat
open Go.RowKit Go.Kb Go.ChangeShapes Go.WideShapes Go.ChangeAt Go.Deep

theorem ints_of_cells {k : IntKind} {p : Int → Prop} : ∀ {cs : List Value}, (∀ i, i < cs.length → ∃ x, cs[i]? = some (.int k x) ∧ p x) → ∃ l : List Int, cs = l.map (Value.int k) ∧ ∀ x ∈ l, p x
  | [], _ => ⟨[], rfl, by simp⟩
  | c :: cs, h => by
    obtain ⟨l, hl, hp⟩ := ints_of_cells (cs := cs) fun i hi => h (i + 1) (by simp; omega)
    obtain ⟨x, hx, hpx⟩ := h 0 (by simp)
    simp at hx
    subst hx hl
    refine ⟨x :: l, by simp, fun y hy => ?_⟩
    rcases List.mem_cons.1 hy with rfl | hy
    · exact hpx
    · exact hp y hy
set_option maxRecDepth 100000 in
theorem opens_proc {H : Type} {enc : TypeId × Value → H} (W : World) : Opens enc Tryz.prog W 64 Rp Pr.wf := by
  intro fuel cs x h _
  obtain ⟨xs, n, rfl, rfl, hl, hxl, hf⟩ := DataW.trod_struct Tryz.underlying64 h
  have cT : Tryz.prog.cellsOf 64 = 43 := by kernel_rfl
  have cA : Tryz.prog.cellsOf 39 = 32 := by kernel_rfl
  have cU : Tryz.prog.cellsOf 37 = 1 := by kernel_rfl
  have cI : Tryz.prog.cellsOf 3 = 1 := by kernel_rfl
  have cB : Tryz.prog.cellsOf 4 = 1 := by kernel_rfl
  have e0 : DataW.trod enc Tryz.prog W 0 (fun _ => true) true n 3 ((cs.drop 0).take (Tryz.prog.cellsOf 3)) = _ := hf 0 _ rfl
  rw [cI] at e0
  have e1 : DataW.trod enc Tryz.prog W 0 (fun _ => true) true n 3 ((cs.drop 1).take (Tryz.prog.cellsOf 3)) = _ := hf 1 _ rfl
  rw [cI] at e1
  have e2 : DataW.trod enc Tryz.prog W 0 (fun _ => true) true n 3 ((cs.drop 2).take (Tryz.prog.cellsOf 3)) = _ := hf 2 _ rfl
  rw [cI] at e2
  have e3 : DataW.trod enc Tryz.prog W 0 (fun _ => true) true n 3 ((cs.drop 3).take (Tryz.prog.cellsOf 3)) = _ := hf 3 _ rfl
  rw [cI] at e3
  have e4 : DataW.trod enc Tryz.prog W 0 (fun _ => true) true n 3 ((cs.drop 4).take (Tryz.prog.cellsOf 3)) = _ := hf 4 _ rfl
  rw [cI] at e4
  have e5 : DataW.trod enc Tryz.prog W 0 (fun _ => true) true n 3 ((cs.drop 5).take (Tryz.prog.cellsOf 3)) = _ := hf 5 _ rfl
  rw [cI] at e5
  have e6 : DataW.trod enc Tryz.prog W 0 (fun _ => true) true n 3 ((cs.drop 6).take (Tryz.prog.cellsOf 3)) = _ := hf 6 _ rfl
  rw [cI] at e6
  have e7 : DataW.trod enc Tryz.prog W 0 (fun _ => true) true n 37 ((cs.drop 7).take (Tryz.prog.cellsOf 37)) = _ := hf 7 _ rfl
  rw [cU] at e7
  have e8 : DataW.trod enc Tryz.prog W 0 (fun _ => true) true n 37 ((cs.drop 8).take (Tryz.prog.cellsOf 37)) = _ := hf 8 _ rfl
  rw [cU] at e8
  have e9 : DataW.trod enc Tryz.prog W 0 (fun _ => true) true n 39 ((cs.drop 9).take (Tryz.prog.cellsOf 39)) = _ := hf 9 _ rfl
  rw [cA] at e9
  have e10 : DataW.trod enc Tryz.prog W 0 (fun _ => true) true n 3 ((cs.drop 41).take (Tryz.prog.cellsOf 3)) = _ := hf 10 _ rfl
  rw [cI] at e10
  have e11 : DataW.trod enc Tryz.prog W 0 (fun _ => true) true n 4 ((cs.drop 42).take (Tryz.prog.cellsOf 4)) = _ := hf 11 _ rfl
  rw [cB] at e11
  match xs, hxl with
  | [a0, a1, a2, a3, a4, a5, a6, a7, a8, a9, a10, a11], _ =>
    rw [cT] at hl
    obtain ⟨f0, g0, _, w0⟩ := DataW.trod_int Tryz.underlying3 e0
    obtain ⟨f1, g1, _, w1⟩ := DataW.trod_int Tryz.underlying3 e1
    obtain ⟨f2, g2, _, w2⟩ := DataW.trod_int Tryz.underlying3 e2
    obtain ⟨f3, g3, _, w3⟩ := DataW.trod_int Tryz.underlying3 e3
    obtain ⟨f4, g4, _, w4⟩ := DataW.trod_int Tryz.underlying3 e4
    obtain ⟨f5, g5, _, w5⟩ := DataW.trod_int Tryz.underlying3 e5
    obtain ⟨f6, g6, _, w6⟩ := DataW.trod_int Tryz.underlying3 e6
    obtain ⟨f7, g7, _, w7⟩ := DataW.trod_int Tryz.underlying37 e7
    obtain ⟨f8, g8, _, w8⟩ := DataW.trod_int Tryz.underlying37 e8
    obtain ⟨f10, g10, _, w10⟩ := DataW.trod_int Tryz.underlying3 e10
    obtain ⟨f11, g11, _⟩ := DataW.trod_bool Tryz.underlying4 e11
    obtain ⟨ys, m, _, _, hyl, hyn, hy⟩ := DataW.trod_array Tryz.underlying39 e9
    rw [cA] at hyl
    obtain ⟨l, hlc, hlb⟩ := ints_of_cells (k := .i64) (p := fun x => (Lit.int .i64 x).wf = true) (cs := (cs.drop 9).take 32) fun i hi => by
      rw [hyl] at hi
      have := hy i hi
      rw [cI, Nat.mul_one, List.getElem?_eq_getElem (by omega)] at this
      obtain ⟨z, gz, _, wz⟩ := DataW.trod_int Tryz.underlying3 this
      refine ⟨z, ?_, wz⟩
      have h2 := congrArg (fun l => l[0]?) gz
      simpa [List.getElem?_take, List.getElem?_drop, hi] using h2
    have hcs : cs = (cs.drop 0).take 1 ++ ((cs.drop 1).take 1 ++ ((cs.drop 2).take 1 ++ ((cs.drop 3).take 1 ++ ((cs.drop 4).take 1 ++ ((cs.drop 5).take 1 ++ ((cs.drop 6).take 1 ++ ((cs.drop 7).take 1 ++ ((cs.drop 8).take 1 ++ ((cs.drop 9).take 32 ++ ((cs.drop 41).take 1 ++ ((cs.drop 42).take 1))))))))))) := by
      apply List.ext_getElem?
      intro i
      have : i = 0 ∨ i = 1 ∨ i = 2 ∨ i = 3 ∨ i = 4 ∨ i = 5 ∨ i = 6 ∨ i = 7 ∨ i = 8 ∨ (9 ≤ i ∧ i < 41) ∨ i = 41 ∨ i = 42 ∨ 43 ≤ i := by omega
      rcases this with rfl | rfl | rfl | rfl | rfl | rfl | rfl | rfl | rfl | hi | rfl | rfl | hi
      case inr.inr.inr.inr.inr.inr.inr.inr.inr.inl =>
        obtain ⟨t, rfl⟩ : ∃ t, i = 9 + t := ⟨i - 9, by omega⟩
        have ht : t < 32 := by omega
        have e1 : ∀ k, k < 43 → ((cs.drop k).take 1).length = 1 := fun k hk => by rw [List.length_take, List.length_drop]; omega
        iterate 9 rw [List.getElem?_append_right (by rw [e1 _ (by omega)]; omega), e1 _ (by omega)]
        rw [List.getElem?_append_left (by rw [List.length_take, List.length_drop]; omega), List.getElem?_take, if_pos (by omega), List.getElem?_drop]
        congr 1
        omega
      case inr.inr.inr.inr.inr.inr.inr.inr.inr.inr.inr.inr =>
        rw [List.getElem?_eq_none (by omega), List.getElem?_eq_none (by simp [hl]; omega)]
      all_goals simp [hl]
    refine ⟨⟨f0, f1, f2, f3, f4, f5, f6, f7, f8, l, f10, f11⟩, ⟨?_, ?_⟩, ?_⟩
    · rw [hcs, hlc]
      have g0' : (cs.drop 0).take 1 = _ := g0
      have g1' : (cs.drop 1).take 1 = _ := g1
      have g2' : (cs.drop 2).take 1 = _ := g2
      have g3' : (cs.drop 3).take 1 = _ := g3
      have g4' : (cs.drop 4).take 1 = _ := g4
      have g5' : (cs.drop 5).take 1 = _ := g5
      have g6' : (cs.drop 6).take 1 = _ := g6
      have g7' : (cs.drop 7).take 1 = _ := g7
      have g8' : (cs.drop 8).take 1 = _ := g8
      have g10' : (cs.drop 41).take 1 = _ := g10
      have g11' : (cs.drop 42).take 1 = _ := g11
      rw [g0', g1', g2', g3', g4', g5', g6', g7', g8', g10', g11']
      rfl
    · show l.length = 32
      have := congrArg List.length hlc
      rw [List.length_map] at this
      exact this.symm.trans hyl
    · exact ⟨w0, w1, w2, w3, w4, w5, w6, w7, w8, hlb, w10⟩
set_option maxRecDepth 100000 in
theorem open_tab {H : Type} {enc : TypeId × Value → H} {W : World} {v : Value} {d : DataW H} {p : List MemPlace} {r : Reach} {b0 : Nat}
    (hok : Value.okWide Tryz.prog W r b0 24 v) (h : DataW.Trod enc Tryz.prog W 0 (fun _ => true) true 24 v d p) (hw : (d.weights Tryz.prog 24).all (· ≤ reachBytes) = true) :
    ∃ (Ad : Option Addr) (c : Nat) (l : List Pr) (nx : Int), v = tv Ad l.length c nx ∧ RdY Rp (fun _ => True) W (.slice Ad l.length c) l ∧ (∀ p ∈ l, p.wf) ∧ (Lit.int .i64 nx).wf = true := by
  obtain ⟨cs, rfl, hl, hf⟩ := open_fields Tryz.underlying24 hok h hw
  have cT : Tryz.prog.cellsOf 24 = 2 := by kernel_rfl
  rw [cT] at hl
  have f0 : FieldOpens enc Tryz.prog W cs.toList 22 0 := hf 0 _ rfl
  have f1 : FieldOpens enc Tryz.prog W cs.toList 3 1 := hf 1 _ rfl
  obtain ⟨v, l, hv, hr, hR⟩ := f0.slice (opens_slice Tryz.underlying22 (by kernel_rfl) (opens_proc W)) (by kernel_rfl)
  obtain ⟨nx, hnx, hnw⟩ := f1.int Tryz.underlying3 (by kernel_rfl)
  obtain ⟨Ad, c, rfl, _, _⟩ := hr.shape
  refine ⟨Ad, c, l, nx, ?_, hr.y, hR.1, hnw⟩
  show Value.agg cs = Value.agg #[_, _]
  congr 1
  obtain ⟨k⟩ := cs
  simp only [List.size_toArray] at hl
  match k, hl with
  | [a0, a1], _ =>
    simp at hv hnx
    subst hv hnx
    rfl
end Go.Proofs.YteljobleojhgmaaGreat
namespace Go.Proofs.YteljobleojhgmaaGreat
open Go.RowKit Go.Kb
theorem good_wf {l : List Pr} (h : ∀ p ∈ l, p.wf) : (∀ p ∈ l, Sig.U64 p.pending) ∧ (∀ p ∈ l, Sig.U64 p.mask) := by
  have h1 : IntKind.u64.min = 0 := rfl
  have h2 : IntKind.u64.max = 18446744073709551615 := rfl
  constructor
  · intro p hp
    have := (h p hp).2.2.2.2.2.2.2.1
    simp [Lit.wf] at this
    rw [h1, h2] at this
    exact ⟨this.1, by omega⟩
  · intro p hp
    have := (h p hp).2.2.2.2.2.2.2.2.1
    simp [Lit.wf] at this
    rw [h1, h2] at this
    exact ⟨this.1, by omega⟩
end Go.Proofs.YteljobleojhgmaaGreat
