/- One byte put behind the others by octet's writer, by contract. No condition. -/
import Derived.Test.YtldijmappinngaaGreatDoorSH17
import Derived.Deep.Cut
import Derived.Deep.DeepCutAuto
import Derived.Deep.RegionHeld3
namespace Go.Proofs.YtldijmappinngaaGreatDoor
open Go.RowKit Go.Kb
set_option maxRecDepth 100000

abbrev Ub8 : Rep Int := Rep.int .u8
theorem info_ub8 : (Tryz.prog.info? 5).map (fun i => (i.zero, i.size, i.bytes)) = some (some (.int .u8 0), Ub8.size, 1) := by kernel_rfl
set_option maxHeartbeats 800000 in
theorem woct1 (g : Nat) (w : World) (h : Blk w g 105 #[.slice none 0 0]) :
    Calls Tryz.prog 68 #[.pointer (some ⟨g, 0, none⟩), .agg fld1] w fun e w' => e = .returned (.tuple #[]) ∧ ∃ A c, Blk w' g 105 #[.slice A 1 c] ∧ OwnS Ub8 5 w.heap.size (fun _ => False) w' (.slice A 1 c) [1] ∧ Mod (fun k => k = g) w w' := by
  have HG := Lib.hid h
  have hlt := h.lt
  unfold fld1
  obtain ⟨W, hW⟩ : ∃ W, W = w.alloc (.cells #[.int .i64 2, .int .u32 1, .slice none 0 0, .slice none 0 0] 59) := ⟨_, rfl⟩
  have B3 := Lib.hid (show Blk W w.heap.size 59 #[.int .i64 2, .int .u32 1, .slice none 0 0, .slice none 0 0] by rw [hW]; exact Blk.new w _ _)
  have E0 : Ext w W := by rw [hW]; exact (Ext.refl _).alloc _
  have HW := Lib.hid hW
  have hgn : g ≠ w.heap.size := by omega
  clear h hW
  go_enter Tryz.func68, Tryz.ntmps68
  go_upto_region 1 with fail
  rw [← HW.out]
  clear HW
  refine wp_region_held_drew (S := fun w' => Mod (fun k => k = g) W w') (by kernel_rfl) (Mod.of_ext (Ext.drew (Ext.refl _))) (fun hHeld => ?_)
  obtain ⟨D, hD⟩ : ∃ D, D = W.drew := ⟨_, rfl⟩
  have ED : Ext W D := by rw [hD]; exact (Ext.refl _).drew
  rw [← hD] at hHeld ⊢
  clear hD
  (refine wpAnyH_take (i := 0) (v := ?_) rfl (by kernel_rfl) (by kernel_rfl) (by kernel_rfl) (fun _ _ _ h => h) (Or.inl ⟨by rfl, ?_⟩) (by assumption) ?_; rotate_left; (focus (intro w' hSw; go_simp; try with_reducible rfl)); (try simp only [List.getElem_toArray]); (try simp only [List.getElem_cons_succ]); (try simp only [List.getElem_cons_zero]); (try simp only [Act.put]); (try simp only [List.setIfInBounds_toArray]); (try simp only [List.set_cons_succ]); (try simp only [List.set_cons_zero]))
  (refine wpAnyH_take (i := 1) (v := ?_) rfl (by kernel_rfl) (by kernel_rfl) (by kernel_rfl) (fun _ _ _ h => h) (Or.inl ⟨by rfl, ?_⟩) (by assumption) ?_; rotate_left; (focus (intro w' hSw; go_simp; try with_reducible rfl)); (try simp only [List.getElem_toArray]); (try simp only [List.getElem_cons_succ]); (try simp only [List.getElem_cons_zero]); (try simp only [Act.put]); (try simp only [List.setIfInBounds_toArray]); (try simp only [List.set_cons_succ]); (try simp only [List.set_cons_zero]))
  (refine wpAnyH_take (i := 2) (v := ?_) rfl (by kernel_rfl) (by kernel_rfl) (by kernel_rfl) (fun _ _ _ h => h) (Or.inl ⟨by rfl, ?_⟩) (by assumption) ?_; rotate_left; (focus (intro w' hSw; go_simp; try with_reducible rfl)); (try simp only [List.getElem_toArray]); (try simp only [List.getElem_cons_succ]); (try simp only [List.getElem_cons_zero]); (try simp only [Act.put]); (try simp only [List.setIfInBounds_toArray]); (try simp only [List.set_cons_succ]); (try simp only [List.set_cons_zero]))
  (refine wpAnyH_take (i := 3) (v := ?_) rfl (by kernel_rfl) (by kernel_rfl) (by kernel_rfl) (fun _ _ _ h => h) (Or.inl ⟨by rfl, ?_⟩) (by assumption) ?_; rotate_left; (focus (intro w' hSw; go_simp; try with_reducible rfl)); (try simp only [List.getElem_toArray]); (try simp only [List.getElem_cons_succ]); (try simp only [List.getElem_cons_zero]); (try simp only [Act.put]); (try simp only [List.setIfInBounds_toArray]); (try simp only [List.set_cons_succ]); (try simp only [List.set_cons_zero]))
  (refine wpAnyH_take (i := 5) (v := ?_) rfl (by kernel_rfl) (by kernel_rfl) (by kernel_rfl) (fun _ _ _ h => h) (Or.inl ⟨by rfl, ?_⟩) (by assumption) ?_; rotate_left; (focus (intro w' hSw; go_simp; try with_reducible rfl)); (try simp only [List.getElem_toArray]); (try simp only [List.getElem_cons_succ]); (try simp only [List.getElem_cons_zero]); (try simp only [Act.put]); (try simp only [List.setIfInBounds_toArray]); (try simp only [List.set_cons_succ]); (try simp only [List.set_cons_zero]))
  (refine wpAnyH_take (i := 6) (v := ?_) rfl (by kernel_rfl) (by kernel_rfl) (by kernel_rfl) (fun _ _ _ h => h) (Or.inl ⟨by rfl, ?_⟩) (by assumption) ?_; rotate_left; (focus (intro w' hSw; have kc := (B3.out.mod hSw (by omega)).cell 1; go_simp; try with_reducible rfl)); (try simp only [List.getElem_toArray]); (try simp only [List.getElem_cons_succ]); (try simp only [List.getElem_cons_zero]); (try simp only [Act.put]); (try simp only [List.setIfInBounds_toArray]); (try simp only [List.set_cons_succ]); (try simp only [List.set_cons_zero]))
  (refine wpAnyH_take (i := 7) (v := ?_) rfl (by kernel_rfl) (by kernel_rfl) (by kernel_rfl) (fun _ _ _ h => h) (Or.inl ⟨by rfl, ?_⟩) (by assumption) ?_; rotate_left; (focus (intro w' hSw; go_simp; try with_reducible rfl)); (try simp only [List.getElem_toArray]); (try simp only [List.getElem_cons_succ]); (try simp only [List.getElem_cons_zero]); (try simp only [Act.put]); (try simp only [List.setIfInBounds_toArray]); (try simp only [List.set_cons_succ]); (try simp only [List.set_cons_zero]))
  have BD := HG.out.ext (E0.trans ED)
  have kd := BD.cell 0
  refine wpAnyH_ready (rs := [4, 8]) (by kernel_rfl) (by simp) ?_
  refine AllReadyH.cons rfl (fun K hK => ?_) (AllReadyH.cons rfl (fun K hK => ?_) AllReadyH.nil)
  · go_simp
    refine hK.out _ _ (Mod.of_ext ED) (fun hHeld => ?_)
    clear hK K
    (try simp only [Act.put]); (try simp only [List.getElem_toArray]); (try simp only [List.getElem_cons_succ]); (try simp only [List.getElem_cons_zero]); (try simp only [List.setIfInBounds_toArray]); (try simp only [List.set_cons_succ]); (try simp only [List.set_cons_zero])
    (refine wpAnyH_ready (rs := [8]) (by kernel_rfl) (by simp) ?_; refine AllReadyH.cons rfl (fun K hK => ?_) AllReadyH.nil; go_simp; refine hK.out _ _ (Mod.of_ext (ED.alloc _)) (fun hHeld => ?_); clear hK K; (try simp only [Act.put]); (try simp only [List.getElem_toArray]); (try simp only [List.getElem_cons_succ]); (try simp only [List.getElem_cons_zero]); (try simp only [List.setIfInBounds_toArray]); (try simp only [List.set_cons_succ]); (try simp only [List.set_cons_zero]))
    refine wpAnyH_ready (rs := [9]) (by kernel_rfl) (by simp) ?_
    refine AllReadyH.cons rfl (fun K hK => ?_) AllReadyH.nil
    refine step_app (e := Ub8) (base := D.heap.size) (B := fun _ => False) (A := fun _ => False) rfl (.tmp 8) (.tmp 12) rfl Tryz.underlying25 info_ub8 rfl (OwnS.nil _ _ _ _ _) rfl (RdY.singleB (e := Ub8) (cs := [.int .u8 1]) (d := 1) rfl (Blk.new D _ _)) rfl (fun _ _ h => h.elim) (N := 1) rfl (by simp [maxLen]) (by omega) (by simp) ?_
    intro A9 c9 x9 o9 M9 D9
    have E9 : Ext W x9 := Below.trans (ED.alloc _) (D9.mono ED.size)
    refine hK.out _ _ (Mod.of_ext E9) (fun hHeld => ?_)
    clear hK K
    (try simp only [List.getElem_toArray]); (try simp only [List.getElem_cons_succ]); (try simp only [List.getElem_cons_zero]); (try simp only [Act.put]); (try simp only [List.setIfInBounds_toArray]); (try simp only [List.set_cons_succ]); (try simp only [List.set_cons_zero])
    (refine wpAnyH_take (i := 10) (v := ?_) rfl (by kernel_rfl) (by kernel_rfl) (by kernel_rfl) (fun _ _ _ h => h) (Or.inl ⟨by rfl, ?_⟩) (by assumption) ?_; rotate_left; (focus (intro w' hSw; go_simp; try with_reducible rfl)); (try simp only [List.getElem_toArray]); (try simp only [List.getElem_cons_succ]); (try simp only [List.getElem_cons_zero]); (try simp only [Act.put]); (try simp only [List.setIfInBounds_toArray]); (try simp only [List.set_cons_succ]); (try simp only [List.set_cons_zero]))
    (refine wpAnyH_take (i := 11) (v := ?_) rfl (by kernel_rfl) (by kernel_rfl) (by kernel_rfl) (fun _ _ _ h => h) (Or.inl ⟨by rfl, ?_⟩) (by assumption) ?_; rotate_left; (focus (intro w' hSw; go_simp; try with_reducible rfl)); (try simp only [List.getElem_toArray]); (try simp only [List.getElem_cons_succ]); (try simp only [List.getElem_cons_zero]); (try simp only [Act.put]); (try simp only [List.setIfInBounds_toArray]); (try simp only [List.set_cons_succ]); (try simp only [List.set_cons_zero]))
    have B9 := HG.out.ext (E0.trans E9)
    have kd9 := B9.cell 0
    have fd9 := B9.frozen 0
    have M12 : Mod (fun k => k = g) x9 _ := (Mod.refl _ x9).set1 (.slice A9 1 c9) (o := 0)
    have BF := Lib.hid (B9.set_ 0 (.slice A9 1 c9))
    have OF := Lib.hid ((o9.lower (base' := w.heap.size) (Nat.le_trans E0.size ED.size)).mod M12 (fun k hk he => by have := (o9.row k hk).1; have := Nat.le_trans E0.size ED.size; omega) (fun _ _ hk _ => hk))
    have MF := Lib.hid ((Mod.of_ext (S := fun k => k = g) (E0.trans E9)).trans M12)
    (refine wpAnyH_ready (rs := [12]) (by kernel_rfl) (by simp) ?_; refine AllReadyH.cons rfl (fun K hK => ?_) AllReadyH.nil; go_simp; refine hK.out _ _ ((Mod.of_ext E9).trans M12) (fun hHeld => ?_); clear hK K; (try simp only [Act.put]); (try simp only [List.getElem_toArray]); (try simp only [List.getElem_cons_succ]); (try simp only [List.getElem_cons_zero]); (try simp only [List.setIfInBounds_toArray]); (try simp only [List.set_cons_succ]); (try simp only [List.set_cons_zero]))
    refine wpAnyH_done (by kernel_rfl) ?_ _
    go_end0
    exact ⟨rfl, A9, c9, BF.out, OF.out, MF.out⟩
  · go_simp
    refine hK.out _ _ (Mod.of_ext (ED.alloc _)) (fun hHeld => ?_)
    clear hK K
    (try simp only [Act.put]); (try simp only [List.getElem_toArray]); (try simp only [List.getElem_cons_succ]); (try simp only [List.getElem_cons_zero]); (try simp only [List.setIfInBounds_toArray]); (try simp only [List.set_cons_succ]); (try simp only [List.set_cons_zero])
    have kd := (BD.ext ((Ext.refl D).alloc (.cells #[.int .u8 (IntKind.u8.wrap 1)] 5))).cell 0
    (refine wpAnyH_ready (rs := [4]) (by kernel_rfl) (by simp) ?_; refine AllReadyH.cons rfl (fun K hK => ?_) AllReadyH.nil; go_simp; refine hK.out _ _ (Mod.of_ext (ED.alloc _)) (fun hHeld => ?_); clear hK K; (try simp only [Act.put]); (try simp only [List.getElem_toArray]); (try simp only [List.getElem_cons_succ]); (try simp only [List.getElem_cons_zero]); (try simp only [List.setIfInBounds_toArray]); (try simp only [List.set_cons_succ]); (try simp only [List.set_cons_zero]))
    refine wpAnyH_ready (rs := [9]) (by kernel_rfl) (by simp) ?_
    refine AllReadyH.cons rfl (fun K hK => ?_) AllReadyH.nil
    refine step_app (e := Ub8) (base := D.heap.size) (B := fun _ => False) (A := fun _ => False) rfl (.tmp 8) (.tmp 12) rfl Tryz.underlying25 info_ub8 rfl (OwnS.nil _ _ _ _ _) rfl (RdY.singleB (e := Ub8) (cs := [.int .u8 1]) (d := 1) rfl (Blk.new D _ _)) rfl (fun _ _ h => h.elim) (N := 1) rfl (by simp [maxLen]) (by omega) (by simp) ?_
    intro A9 c9 x9 o9 M9 D9
    have E9 : Ext W x9 := Below.trans (ED.alloc _) (D9.mono ED.size)
    refine hK.out _ _ (Mod.of_ext E9) (fun hHeld => ?_)
    clear hK K
    (try simp only [List.getElem_toArray]); (try simp only [List.getElem_cons_succ]); (try simp only [List.getElem_cons_zero]); (try simp only [Act.put]); (try simp only [List.setIfInBounds_toArray]); (try simp only [List.set_cons_succ]); (try simp only [List.set_cons_zero])
    (refine wpAnyH_take (i := 10) (v := ?_) rfl (by kernel_rfl) (by kernel_rfl) (by kernel_rfl) (fun _ _ _ h => h) (Or.inl ⟨by rfl, ?_⟩) (by assumption) ?_; rotate_left; (focus (intro w' hSw; go_simp; try with_reducible rfl)); (try simp only [List.getElem_toArray]); (try simp only [List.getElem_cons_succ]); (try simp only [List.getElem_cons_zero]); (try simp only [Act.put]); (try simp only [List.setIfInBounds_toArray]); (try simp only [List.set_cons_succ]); (try simp only [List.set_cons_zero]))
    (refine wpAnyH_take (i := 11) (v := ?_) rfl (by kernel_rfl) (by kernel_rfl) (by kernel_rfl) (fun _ _ _ h => h) (Or.inl ⟨by rfl, ?_⟩) (by assumption) ?_; rotate_left; (focus (intro w' hSw; go_simp; try with_reducible rfl)); (try simp only [List.getElem_toArray]); (try simp only [List.getElem_cons_succ]); (try simp only [List.getElem_cons_zero]); (try simp only [Act.put]); (try simp only [List.setIfInBounds_toArray]); (try simp only [List.set_cons_succ]); (try simp only [List.set_cons_zero]))
    have B9 := HG.out.ext (E0.trans E9)
    have kd9 := B9.cell 0
    have fd9 := B9.frozen 0
    have M12 : Mod (fun k => k = g) x9 _ := (Mod.refl _ x9).set1 (.slice A9 1 c9) (o := 0)
    have BF := Lib.hid (B9.set_ 0 (.slice A9 1 c9))
    have OF := Lib.hid ((o9.lower (base' := w.heap.size) (Nat.le_trans E0.size ED.size)).mod M12 (fun k hk he => by have := (o9.row k hk).1; have := Nat.le_trans E0.size ED.size; omega) (fun _ _ hk _ => hk))
    have MF := Lib.hid ((Mod.of_ext (S := fun k => k = g) (E0.trans E9)).trans M12)
    (refine wpAnyH_ready (rs := [12]) (by kernel_rfl) (by simp) ?_; refine AllReadyH.cons rfl (fun K hK => ?_) AllReadyH.nil; go_simp; refine hK.out _ _ ((Mod.of_ext E9).trans M12) (fun hHeld => ?_); clear hK K; (try simp only [Act.put]); (try simp only [List.getElem_toArray]); (try simp only [List.getElem_cons_succ]); (try simp only [List.getElem_cons_zero]); (try simp only [List.setIfInBounds_toArray]); (try simp only [List.set_cons_succ]); (try simp only [List.set_cons_zero]))
    refine wpAnyH_done (by kernel_rfl) ?_ _
    go_end0
    exact ⟨rfl, A9, c9, BF.out, OF.out, MF.out⟩
end Go.Proofs.YtldijmappinngaaGreatDoor
