/- ref, great and Same (of a table with itself), by contract. Conditions: few processes, numbers that fit. -/
import Derived.Test.YteljobleojhgmaaGreatO21
namespace Go.Proofs.YteljobleojhgmaaGreat
open Go.RowKit Go.Kb

set_option maxHeartbeats 800000 in
theorem great_any (Ad : Option Addr) (c : Nat) (l : List Pr) (nx : Int) (w : World) :
    Calls Tryz.prog 5 #[tv Ad l.length c nx] w fun e w' => e = .returned (.bool (decide (40 < l.length))) ∧ Ext w w' := by
  obtain ⟨N, hN⟩ : ∃ N, l.length = N := ⟨_, rfl⟩
  rw [hN]
  clear hN
  by_cases hl : 40 < N
  · have hl2 : (40 : Int) < (N : Int) := by omega
    go_enter Tryz.func5, Tryz.ntmps5
    go_wp2
    go_ret
    exact ⟨by rw [decide_eq_true hl]; rfl, (by repeat (first | with_reducible exact Ext.refl _ | refine Ext.drewN ?_ _ | refine Ext.drew ?_ | refine Ext.alloc ?_ _ | assumption | (refine Below.trans ?_ (by assumption)) | (refine Ext.trans ?_ (by assumption)) | (refine Below.trans ?_ (Below.mono (by assumption) (by omega)))))⟩
  · have hl2 : ¬ (40 : Int) < (N : Int) := by omega
    go_enter Tryz.func5, Tryz.ntmps5
    go_wp2
    go_ret
    exact ⟨rfl, (by repeat (first | with_reducible exact Ext.refl _ | refine Ext.drewN ?_ _ | refine Ext.drew ?_ | refine Ext.alloc ?_ _ | assumption | (refine Below.trans ?_ (by assumption)) | (refine Ext.trans ?_ (by assumption)) | (refine Below.trans ?_ (Below.mono (by assumption) (by omega)))))⟩
set_option maxRecDepth 100000 in
set_option maxHeartbeats 800000 in
theorem ref_any {A : Nat → Prop} (Ad : Option Addr) (c : Nat) (l : List Pr) (nx : Int) (w : World) (h : RdY Rp A w (.slice Ad l.length c) l) (hn : l.length ≤ 100000) :
    Calls Tryz.prog 10 #[tv Ad l.length c nx] w fun e w' => ∃ A' c', e = .returned (tv A' l.length c' nx) ∧ OwnS Rp 64 w.heap.size (fun _ => False) w' (.slice A' l.length c') l ∧ Ext w w' := by
  have H := Lib.hid (rdy_pr (B := fun _ => False) h)
  obtain ⟨W, hW⟩ : ∃ W, W = (w.alloc (.cells #[.slice Ad l.length c, .int .i64 nx] 24)).alloc (.cells #[.slice none 0 0, .int .i64 0] 33) := ⟨_, rfl⟩
  have hres := Lib.hid (show Blk W (w.heap.size + 1) 33 #[.slice none 0 0, .int .i64 0] by rw [hW]; exact Blk.at_ _ _ (by simp))
  have hbox := Lib.hid (show Blk W w.heap.size 24 #[.slice Ad l.length c, .int .i64 nx] by rw [hW]; exact (Blk.new w _ _).alloc _)
  have E0 : Ext w W := by rw [hW]; exact (by repeat (first | with_reducible exact Ext.refl _ | refine Ext.drewN ?_ _ | refine Ext.drew ?_ | refine Ext.alloc ?_ _ | assumption | (refine Below.trans ?_ (by assumption)) | (refine Ext.trans ?_ (by assumption)) | (refine Below.trans ?_ (Below.mono (by assumption) (by omega)))))
  have hsz := Lib.hid (show W.heap.size = w.heap.size + 2 by rw [hW]; simp)
  have HW := Lib.hid hW
  clear h hW
  go_enter Tryz.func10, Tryz.ntmps10
  go_wp2
  rw [← HW.out]
  have hz := hsz.out
  refine wp_region_held_drew (S := fun w' => Mod (fun k => k = w.heap.size + 1) W w') (by kernel_rfl) (Mod.of_ext (Ext.drew (Ext.refl _))) (fun hHeld => ?_)
  (refine wpAnyH_take (i := 1) (v := ?_) rfl (by kernel_rfl) (by kernel_rfl) (by kernel_rfl) (fun _ _ _ h => h) (Or.inl ⟨by rfl, ?_⟩) (by assumption) ?_; rotate_left; (focus (intro w' hSw; go_simp; try with_reducible rfl)); (try simp only [List.getElem_toArray]); (try simp only [List.getElem_cons_succ]); (try simp only [List.getElem_cons_zero]); (try simp only [Act.put]); (try simp only [List.setIfInBounds_toArray]); (try simp only [List.set_cons_succ]); (try simp only [List.set_cons_zero]))
  (refine wpAnyH_take (i := 2) (v := ?_) rfl (by kernel_rfl) (by kernel_rfl) (by kernel_rfl) (fun _ _ _ h => h) (Or.inl ⟨by rfl, ?_⟩) (by assumption) ?_; rotate_left; (focus (intro w' hSw; have kc := (hbox.out.mod hSw (by omega)).two; go_simp; try with_reducible rfl)); (try simp only [List.getElem_toArray]); (try simp only [List.getElem_cons_succ]); (try simp only [List.getElem_cons_zero]); (try simp only [Act.put]); (try simp only [List.setIfInBounds_toArray]); (try simp only [List.set_cons_succ]); (try simp only [List.set_cons_zero]))
  (refine wpAnyH_take (i := 4) (v := ?_) rfl (by kernel_rfl) (by kernel_rfl) (by kernel_rfl) (fun _ _ _ h => h) (Or.inl ⟨by rfl, ?_⟩) (by assumption) ?_; rotate_left; (focus (intro w' hSw; go_simp; try with_reducible rfl)); (try simp only [List.getElem_toArray]); (try simp only [List.getElem_cons_succ]); (try simp only [List.getElem_cons_zero]); (try simp only [Act.put]); (try simp only [List.setIfInBounds_toArray]); (try simp only [List.set_cons_succ]); (try simp only [List.set_cons_zero]))
  (refine wpAnyH_take (i := 5) (v := ?_) rfl (by kernel_rfl) (by kernel_rfl) (by kernel_rfl) (fun _ _ _ h => h) (Or.inl ⟨by rfl, ?_⟩) (by assumption) ?_; rotate_left; (focus (intro w' hSw; have kc := (hbox.out.mod hSw (by omega)).two; go_simp; try with_reducible rfl)); (try simp only [List.getElem_toArray]); (try simp only [List.getElem_cons_succ]); (try simp only [List.getElem_cons_zero]); (try simp only [Act.put]); (try simp only [List.setIfInBounds_toArray]); (try simp only [List.set_cons_succ]); (try simp only [List.set_cons_zero]))
  (refine wpAnyH_ready (rs := [0]) (by kernel_rfl) (by simp) ?_; refine AllReadyH.cons rfl (fun K hK => ?_) AllReadyH.nil; go_simp; refine hK.out _ _ (Mod.of_ext (Ext.alloc (Ext.drew (Ext.refl W)) _)) (fun hHeld => ?_); clear hK K; (try simp only [Act.put]); (try simp only [List.getElem_toArray]); (try simp only [List.getElem_cons_succ]); (try simp only [List.getElem_cons_zero]); (try simp only [List.setIfInBounds_toArray]); (try simp only [List.set_cons_succ]); (try simp only [List.set_cons_zero]))
  have E1 : Ext W (W.drew.alloc (.cells #[] 64)) := (Ext.drew (Ext.refl W)).alloc _
  refine wpAnyH_ready (rs := [3]) (by kernel_rfl) (by simp) ?_
  refine AllReadyH.cons rfl (fun K hK => ?_) AllReadyH.nil
  refine step_app0 (e := Rp) (A := fun _ => False) (n := w.heap.size + 2) rfl (.tmp 3) (.tmp 5) rfl Tryz.underlying22 info_rp rfl (Blk.at_ _ _ (by simpa using hz)) rfl (H.out.ext (E0.trans E1)) rfl (fun _ _ h => h.elim) (by simp [maxLen]; omega) (by omega) ?_
  intro A1 c1 w1 o1 M1 D1
  have E2 : Ext W w1 := Below.trans E1 (D1.mono (by omega))
  refine hK.out _ _ (Mod.of_ext E2) (fun hHeld => ?_)
  clear hK K
  (try simp only [List.getElem_toArray]); (try simp only [List.getElem_cons_succ]); (try simp only [List.getElem_cons_zero]); (try simp only [Act.put]); (try simp only [List.setIfInBounds_toArray]); (try simp only [List.set_cons_succ]); (try simp only [List.set_cons_zero])
  clear M1 D1
  (refine wpAnyH_take (i := 6) (v := ?_) rfl (by kernel_rfl) (by kernel_rfl) (by kernel_rfl) (fun _ _ _ h => h) (Or.inl ⟨by rfl, ?_⟩) (by assumption) ?_; rotate_left; (focus (intro w' hSw; go_simp; try with_reducible rfl)); (try simp only [List.getElem_toArray]); (try simp only [List.getElem_cons_succ]); (try simp only [List.getElem_cons_zero]); (try simp only [Act.put]); (try simp only [List.setIfInBounds_toArray]); (try simp only [List.set_cons_succ]); (try simp only [List.set_cons_zero]))
  have hr1 := hres.out.ext E2
  have kr := hr1.two
  (refine wpAnyH_ready (rs := [7]) (by kernel_rfl) (by simp) ?_; refine AllReadyH.cons rfl (fun K hK => ?_) AllReadyH.nil; go_simp; refine hK.out _ _ (((Mod.of_ext E2).set1 _).set1 _) (fun hHeld => ?_); clear hK K; (try simp only [Act.put]); (try simp only [List.getElem_toArray]); (try simp only [List.getElem_cons_succ]); (try simp only [List.getElem_cons_zero]); (try simp only [List.setIfInBounds_toArray]); (try simp only [List.set_cons_succ]); (try simp only [List.set_cons_zero]))
  refine wpAnyH_done (by kernel_rfl) ?_ _
  have hM7 : Mod (fun k => k = w.heap.size + 1) w1 _ := ((Mod.refl _ w1).set1 (.slice A1 l.length c1) (o := 0)).set1 (.int .i64 nx) (o := 1)
  obtain ⟨q0, q1, _, _⟩ := (hr1.put2 (.slice A1 l.length c1) (.int .i64 nx)).two
  have hrw := Lib.hid o1.row
  have o1 := Lib.hid o1
  clear hz
  go_wp2
  refine bodyPost_ret (v := tv A1 l.length c1 nx) (by simp [results, Tryz.results10, go_sem, q0, q1]) rfl ?_
  have hz := hsz.out
  exact ⟨A1, c1, rfl, (o1.out.mod hM7 (fun k hk he => by have := (hrw.out k hk).1; omega) (fun k _ hk _ => hk)).lower (by omega), Mod.toExt (E0.trans E2) hM7 (by intro k hk he; omega)⟩
end Go.Proofs.YteljobleojhgmaaGreat
