/- parlourref04.Own and Same of requests, by contract (Own's kinds are printed by a program of ours). Conditions: few bytes. -/
import Derived.Test.YtldijmappinngaaGreatDoorPO04
namespace Go.Proofs.YtldijmappinngaaGreatDoor
open Go.RowKit Go.Kb
set_option maxRecDepth 100000

/-- what Own answers -/
def OwQ (r : Rq) (k : Nat) (v : Value) (w : World) (e : Ending) (w' : World) : Prop :=
  ∃ v', e = .returned (.agg (rqA (ownQ r k) v')) ∧ (((ownQ r k).mo = [] ∧ v' = .slice none 0 0) ∨ ((ownQ r k).mo = r.mo ∧ v' = v)) ∧ Ext w w'
set_option maxHeartbeats 3000000 in
theorem qown_1 (tx vl la : ByteArray) (c1 c2 c3 c4 : Int) (mo : List Int) (on : Bool) (co : Int) (Av : Option Addr) (L cv : Nat) (w : World) : Calls Tryz.prog 17 #[.agg #[.int .i64 1, .string tx, .string vl, .string la, .int .u32 c1, .int .u32 c2, .int .u32 c3, .int .u32 c4, .slice Av L cv, .bool on, .int .u32 co]] w (OwQ ⟨1, tx, vl, la, c1, c2, c3, c4, mo, on, co⟩ 1 (.slice Av L cv) w) := by
  have hiM : (Tryz.prog.info? 47).map (·.size) = some 11 := by kernel_rfl
  obtain ⟨W3, hW3⟩ : ∃ W3, W3 = ((w.alloc (.cells #[.int .i64 1, .string tx, .string vl, .string la, .int .u32 c1, .int .u32 c2, .int .u32 c3, .int .u32 c4, .slice Av L cv, .bool on, .int .u32 co] 47)).alloc (.cells #[.int .i64 0, .string ⟨#[]⟩, .string ⟨#[]⟩, .string ⟨#[]⟩, .int .u32 0, .int .u32 0, .int .u32 0, .int .u32 0, .slice none 0 0, .bool false, .int .u32 0] 47)).alloc (.cells #[.int .i64 1, .string ⟨#[]⟩, .string ⟨#[]⟩, .string ⟨#[]⟩, .int .u32 0, .int .u32 0, .int .u32 0, .int .u32 0, .slice none 0 0, .bool false, .int .u32 0] 47) := ⟨_, rfl⟩
  have E3 : Ext w W3 := by rw [hW3]; exact (((Ext.refl _).alloc _).alloc _).alloc _
  have X1 := Lib.hid (show Blk W3 w.heap.size 47 #[.int .i64 1, .string tx, .string vl, .string la, .int .u32 c1, .int .u32 c2, .int .u32 c3, .int .u32 c4, .slice Av L cv, .bool on, .int .u32 co] by rw [hW3]; exact ((Blk.new w _ _).alloc _).alloc _)
  have X2 := Lib.hid (show Blk W3 (w.heap.size + 1) 47 #[.int .i64 0, .string ⟨#[]⟩, .string ⟨#[]⟩, .string ⟨#[]⟩, .int .u32 0, .int .u32 0, .int .u32 0, .int .u32 0, .slice none 0 0, .bool false, .int .u32 0] by rw [hW3]; exact (Blk.at_ _ _ (by simp)).alloc _)
  have X3 := Lib.hid (show Blk W3 (w.heap.size + 1 + 1) 47 #[.int .i64 1, .string ⟨#[]⟩, .string ⟨#[]⟩, .string ⟨#[]⟩, .int .u32 0, .int .u32 0, .int .u32 0, .int .u32 0, .slice none 0 0, .bool false, .int .u32 0] by rw [hW3]; exact (Blk.at_ _ _ (by simp)))
  have HW3 := Lib.hid hW3
  clear hW3
  go_enter Tryz.func17, Tryz.ntmps17
  go_upto_region 2 with fail
  rw [← HW3.out]
  have k0 : W3.cell? ⟨w.heap.size, 0, none⟩ = some (.int .i64 1) := by simpa using X1.out.cell 0
  obtain ⟨n3, hn3⟩ : ∃ n3, w.heap.size + 1 + 1 = n3 := ⟨_, rfl⟩
  have HN3 := Lib.hid hn3
  rw [hn3] at X3 ⊢
  clear HW3 hn3
  go_wp2
  have x1 := X1.out.cell 1
  have d1 := X3.out.cell 1
  have f1 := X3.out.frozen 1
  have x4 := X1.out.cell 4
  have d4 := X3.out.cell 4
  have f4 := X3.out.frozen 4
  have x5 := X1.out.cell 5
  have d5 := X3.out.cell 5
  have f5 := X3.out.frozen 5
  have x6 := X1.out.cell 6
  have d6 := X3.out.cell 6
  have f6 := X3.out.frozen 6
  have x7 := X1.out.cell 7
  have d7 := X3.out.cell 7
  have f7 := X3.out.frozen 7
  have x8 := X1.out.cell 8
  have d8 := X3.out.cell 8
  have f8 := X3.out.frozen 8
  simp only [List.getElem?_toArray, List.getElem?_cons_succ, List.getElem?_cons_zero] at x1 d1 x4 d4 x5 d5 x6 d6 x7 d7 x8 d8
  refine wp_region_held_drew (S := fun w' => Mod (fun k => k = n3) W3 w') (by kernel_rfl) (Mod.of_ext (Ext.drew (Ext.refl _))) (fun hHeld => ?_)
  obtain ⟨D, hD⟩ : ∃ D, D = W3.drew := ⟨_, rfl⟩
  have ED : Ext W3 D := by rw [hD]; exact (Ext.refl _).drew
  rw [← hD] at hHeld ⊢
  clear hD
  have hl1 := X1.out.lt
  have hn1 : ¬ w.heap.size = n3 := by have := HN3.out; omega
  (refine wpAnyH_take (i := 0) (v := ?_) rfl (by kernel_rfl) (by kernel_rfl) (by kernel_rfl) (fun _ _ _ h => h) (Or.inl ⟨by rfl, ?_⟩) (by assumption) ?_; rotate_left; (focus (intro w' hSw; go_simp; try with_reducible rfl)); (try simp only [List.getElem_toArray]); (try simp only [List.getElem_cons_succ]); (try simp only [List.getElem_cons_zero]); (try simp only [Act.put]); (try simp only [List.setIfInBounds_toArray]); (try simp only [List.set_cons_succ]); (try simp only [List.set_cons_zero]))
  (refine wpAnyH_take (i := 1) (v := ?_) rfl (by kernel_rfl) (by kernel_rfl) (by kernel_rfl) (fun _ _ _ h => h) (Or.inl ⟨by rfl, ?_⟩) (by assumption) ?_; rotate_left; (focus (intro w' hSw; have kc1 := (hSw.cell w.heap.size 1 hl1 hn1).trans x1; go_simp; try with_reducible rfl)); (try simp only [List.getElem_toArray]); (try simp only [List.getElem_cons_succ]); (try simp only [List.getElem_cons_zero]); (try simp only [Act.put]); (try simp only [List.setIfInBounds_toArray]); (try simp only [List.set_cons_succ]); (try simp only [List.set_cons_zero]))
  (refine wpAnyH_take (i := 2) (v := ?_) rfl (by kernel_rfl) (by kernel_rfl) (by kernel_rfl) (fun _ _ _ h => h) (Or.inl ⟨by rfl, ?_⟩) (by assumption) ?_; rotate_left; (focus (intro w' hSw; go_simp; try with_reducible rfl)); (try simp only [List.getElem_toArray]); (try simp only [List.getElem_cons_succ]); (try simp only [List.getElem_cons_zero]); (try simp only [Act.put]); (try simp only [List.setIfInBounds_toArray]); (try simp only [List.set_cons_succ]); (try simp only [List.set_cons_zero]))
  (refine wpAnyH_take (i := 3) (v := ?_) rfl (by kernel_rfl) (by kernel_rfl) (by kernel_rfl) (fun _ _ _ h => h) (Or.inl ⟨by rfl, ?_⟩) (by assumption) ?_; rotate_left; (focus (intro w' hSw; have kc4 := (hSw.cell w.heap.size 4 hl1 hn1).trans x4; have kc5 := (hSw.cell w.heap.size 5 hl1 hn1).trans x5; have kc6 := (hSw.cell w.heap.size 6 hl1 hn1).trans x6; have kc7 := (hSw.cell w.heap.size 7 hl1 hn1).trans x7; go_simp; try with_reducible rfl)); (try simp only [List.getElem_toArray]); (try simp only [List.getElem_cons_succ]); (try simp only [List.getElem_cons_zero]); (try simp only [Act.put]); (try simp only [List.setIfInBounds_toArray]); (try simp only [List.set_cons_succ]); (try simp only [List.set_cons_zero]))
  (refine wpAnyH_take (i := 4) (v := ?_) rfl (by kernel_rfl) (by kernel_rfl) (by kernel_rfl) (fun _ _ _ h => h) (Or.inl ⟨by rfl, ?_⟩) (by assumption) ?_; rotate_left; (focus (intro w' hSw; go_simp; try with_reducible rfl)); (try simp only [List.getElem_toArray]); (try simp only [List.getElem_cons_succ]); (try simp only [List.getElem_cons_zero]); (try simp only [Act.put]); (try simp only [List.setIfInBounds_toArray]); (try simp only [List.set_cons_succ]); (try simp only [List.set_cons_zero]))
  (refine wpAnyH_take (i := 5) (v := ?_) rfl (by kernel_rfl) (by kernel_rfl) (by kernel_rfl) (fun _ _ _ h => h) (Or.inl ⟨by rfl, ?_⟩) (by assumption) ?_; rotate_left; (focus (intro w' hSw; have kc8 := (hSw.cell w.heap.size 8 hl1 hn1).trans x8; go_simp; try with_reducible rfl)); (try simp only [List.getElem_toArray]); (try simp only [List.getElem_cons_succ]); (try simp only [List.getElem_cons_zero]); (try simp only [Act.put]); (try simp only [List.setIfInBounds_toArray]); (try simp only [List.set_cons_succ]); (try simp only [List.set_cons_zero]))
  replace d1 := cell_ext ED d1
  replace f1 := (X3.out.ext ED).frozen 1
  replace d4 := cell_ext ED d4
  replace f4 := (X3.out.ext ED).frozen 4
  replace d5 := cell_ext ED d5
  replace f5 := (X3.out.ext ED).frozen 5
  replace d6 := cell_ext ED d6
  replace f6 := (X3.out.ext ED).frozen 6
  replace d7 := cell_ext ED d7
  replace f7 := (X3.out.ext ED).frozen 7
  replace d8 := cell_ext ED d8
  replace f8 := (X3.out.ext ED).frozen 8
  (refine wpAnyH_take (i := 6) (v := ?_) rfl (by kernel_rfl) (by kernel_rfl) (by kernel_rfl) (fun _ _ _ h => h) (Or.inl ⟨by rfl, ?_⟩) (by assumption) ?_; rotate_left; (focus (intro w' hSw; go_simp; try with_reducible rfl)); (try simp only [List.getElem_toArray]); (try simp only [List.getElem_cons_succ]); (try simp only [List.getElem_cons_zero]); (try simp only [Act.put]); (try simp only [List.setIfInBounds_toArray]); (try simp only [List.set_cons_succ]); (try simp only [List.set_cons_zero]))
  (refine wpAnyH_ready (rs := [7]) (by kernel_rfl) (by simp) ?_; refine AllReadyH.cons rfl (fun K hK => ?_) AllReadyH.nil; go_simp; refine hK.out _ _ ((Mod.of_ext (S := fun k => k = n3) ED).set1 (o := 1) (.string tx)) (fun hHeld => ?_); clear hK K; (try simp only [Act.put]); (try simp only [List.getElem_toArray]); (try simp only [List.getElem_cons_succ]); (try simp only [List.getElem_cons_zero]); (try simp only [List.setIfInBounds_toArray]); (try simp only [List.set_cons_succ]); (try simp only [List.set_cons_zero]))
  (refine wpAnyH_take (i := 8) (v := ?_) rfl (by kernel_rfl) (by kernel_rfl) (by kernel_rfl) (fun _ _ _ h => h) (Or.inl ⟨by rfl, ?_⟩) (by assumption) ?_; rotate_left; (focus (intro w' hSw; go_simp; try with_reducible rfl)); (try simp only [List.getElem_toArray]); (try simp only [List.getElem_cons_succ]); (try simp only [List.getElem_cons_zero]); (try simp only [Act.put]); (try simp only [List.setIfInBounds_toArray]); (try simp only [List.set_cons_succ]); (try simp only [List.set_cons_zero]))
  (refine wpAnyH_ready (rs := [9]) (by kernel_rfl) (by simp) ?_; refine AllReadyH.cons rfl (fun K hK => ?_) AllReadyH.nil; go_simp; refine hK.out _ _ ((((((Mod.of_ext (S := fun k => k = n3) ED).set1 (o := 1) (.string tx)).set1 (o := 4) (.int .u32 c1)).set1 (o := 5) (.int .u32 c2)).set1 (o := 6) (.int .u32 c3)).set1 (o := 7) (.int .u32 c4)) (fun hHeld => ?_); clear hK K; (try simp only [Act.put]); (try simp only [List.getElem_toArray]); (try simp only [List.getElem_cons_succ]); (try simp only [List.getElem_cons_zero]); (try simp only [List.setIfInBounds_toArray]); (try simp only [List.set_cons_succ]); (try simp only [List.set_cons_zero]))
  (refine wpAnyH_take (i := 10) (v := ?_) rfl (by kernel_rfl) (by kernel_rfl) (by kernel_rfl) (fun _ _ _ h => h) (Or.inl ⟨by rfl, ?_⟩) (by assumption) ?_; rotate_left; (focus (intro w' hSw; go_simp; try with_reducible rfl)); (try simp only [List.getElem_toArray]); (try simp only [List.getElem_cons_succ]); (try simp only [List.getElem_cons_zero]); (try simp only [Act.put]); (try simp only [List.setIfInBounds_toArray]); (try simp only [List.set_cons_succ]); (try simp only [List.set_cons_zero]))
  (refine wpAnyH_ready (rs := [11]) (by kernel_rfl) (by simp) ?_; refine AllReadyH.cons rfl (fun K hK => ?_) AllReadyH.nil; go_simp; refine hK.out _ _ (((((((Mod.of_ext (S := fun k => k = n3) ED).set1 (o := 1) (.string tx)).set1 (o := 4) (.int .u32 c1)).set1 (o := 5) (.int .u32 c2)).set1 (o := 6) (.int .u32 c3)).set1 (o := 7) (.int .u32 c4)).set1 (o := 8) (.slice Av L cv)) (fun hHeld => ?_); clear hK K; (try simp only [Act.put]); (try simp only [List.getElem_toArray]); (try simp only [List.getElem_cons_succ]); (try simp only [List.getElem_cons_zero]); (try simp only [List.setIfInBounds_toArray]); (try simp only [List.set_cons_succ]); (try simp only [List.set_cons_zero]))
  refine wpAnyH_done (by kernel_rfl) ?_ _
  go_upto_region 19 with fail
  have B3 := Lib.hid (show Blk _ n3 47 #[.int .i64 1, .string tx, .string ⟨#[]⟩, .string ⟨#[]⟩, .int .u32 c1, .int .u32 c2, .int .u32 c3, .int .u32 c4, .slice Av L cv, .bool false, .int .u32 0] by simpa using (((((((X3.out.ext ED)).set_ 1 (.string tx)).set_ 4 (.int .u32 c1)).set_ 5 (.int .u32 c2)).set_ 6 (.int .u32 c3)).set_ 7 (.int .u32 c4)).set_ 8 (.slice Av L cv))
  have M3 := Lib.hid (((((((Mod.of_ext (S := fun k => k = n3) ED).set1 (o := 1) (.string tx)).set1 (o := 4) (.int .u32 c1)).set1 (o := 5) (.int .u32 c2)).set1 (o := 6) (.int .u32 c3)).set1 (o := 7) (.int .u32 c4)).set1 (o := 8) (.slice Av L cv))
  generalize ((((((D.setCell ⟨n3, 1, none⟩ (.string tx)).setCell ⟨n3, 4, none⟩ (.int .u32 c1)).setCell ⟨n3, 5, none⟩ (.int .u32 c2)).setCell ⟨n3, 6, none⟩ (.int .u32 c3)).setCell ⟨n3, 7, none⟩ (.int .u32 c4)).setCell ⟨n3, 8, none⟩ (.slice Av L cv)) = W9 at *
  have Y2 := Lib.hid (X2.out.mod M3.out (by have := HN3.out; omega))
  go_wp2_with (first | (refine wpList_load_row rfl 47 _ rfl _ rfl 47 _ _ _ B3.out Tryz.underlying47 rfl hiM ?_) | (refine wpList_load_row rfl 47 _ rfl _ rfl 47 _ _ _ (Blk.drew B3.out) Tryz.underlying47 rfl hiM ?_) | (refine wpList_store_M rfl 47 _ _ rfl (w.heap.size + 1) _ rfl rfl 47 _ Y2.out hiM rfl (by simp [Value.oneCell']) ?_; intro w9 P9 M9) | (refine wpList_store_M rfl 47 _ _ rfl (w.heap.size + 1) _ rfl rfl 47 _ (Blk.drew Y2.out) hiM rfl (by simp [Value.oneCell']) ?_; intro w9 P9 M9))
  refine bodyPost_ret_by (results_cell_row Tryz.results17 _ _ (w.heap.size + 1) 47 _ _ _ rfl P9 Tryz.underlying47 rfl hiM) rfl ?_
  refine ⟨_, rfl, by exact .inr ⟨rfl, rfl⟩, ?_⟩
  have E9 := Mod.toExt E3 M3.out (fun k hk he => by have := HN3.out; omega)
  first | exact Mod.toExt E9 M9 (fun k hk he => by omega) | exact Mod.toExt E9.drew M9 (fun k hk he => by omega)
set_option maxHeartbeats 3000000 in
theorem qown_2 (tx vl la : ByteArray) (c1 c2 c3 c4 : Int) (mo : List Int) (on : Bool) (co : Int) (Av : Option Addr) (L cv : Nat) (w : World) : Calls Tryz.prog 17 #[.agg #[.int .i64 2, .string tx, .string vl, .string la, .int .u32 c1, .int .u32 c2, .int .u32 c3, .int .u32 c4, .slice Av L cv, .bool on, .int .u32 co]] w (OwQ ⟨2, tx, vl, la, c1, c2, c3, c4, mo, on, co⟩ 2 (.slice Av L cv) w) := by
  have hiM : (Tryz.prog.info? 47).map (·.size) = some 11 := by kernel_rfl
  obtain ⟨W3, hW3⟩ : ∃ W3, W3 = ((w.alloc (.cells #[.int .i64 2, .string tx, .string vl, .string la, .int .u32 c1, .int .u32 c2, .int .u32 c3, .int .u32 c4, .slice Av L cv, .bool on, .int .u32 co] 47)).alloc (.cells #[.int .i64 0, .string ⟨#[]⟩, .string ⟨#[]⟩, .string ⟨#[]⟩, .int .u32 0, .int .u32 0, .int .u32 0, .int .u32 0, .slice none 0 0, .bool false, .int .u32 0] 47)).alloc (.cells #[.int .i64 2, .string ⟨#[]⟩, .string ⟨#[]⟩, .string ⟨#[]⟩, .int .u32 0, .int .u32 0, .int .u32 0, .int .u32 0, .slice none 0 0, .bool false, .int .u32 0] 47) := ⟨_, rfl⟩
  have E3 : Ext w W3 := by rw [hW3]; exact (((Ext.refl _).alloc _).alloc _).alloc _
  have X1 := Lib.hid (show Blk W3 w.heap.size 47 #[.int .i64 2, .string tx, .string vl, .string la, .int .u32 c1, .int .u32 c2, .int .u32 c3, .int .u32 c4, .slice Av L cv, .bool on, .int .u32 co] by rw [hW3]; exact ((Blk.new w _ _).alloc _).alloc _)
  have X2 := Lib.hid (show Blk W3 (w.heap.size + 1) 47 #[.int .i64 0, .string ⟨#[]⟩, .string ⟨#[]⟩, .string ⟨#[]⟩, .int .u32 0, .int .u32 0, .int .u32 0, .int .u32 0, .slice none 0 0, .bool false, .int .u32 0] by rw [hW3]; exact (Blk.at_ _ _ (by simp)).alloc _)
  have X3 := Lib.hid (show Blk W3 (w.heap.size + 1 + 1) 47 #[.int .i64 2, .string ⟨#[]⟩, .string ⟨#[]⟩, .string ⟨#[]⟩, .int .u32 0, .int .u32 0, .int .u32 0, .int .u32 0, .slice none 0 0, .bool false, .int .u32 0] by rw [hW3]; exact (Blk.at_ _ _ (by simp)))
  have HW3 := Lib.hid hW3
  clear hW3
  go_enter Tryz.func17, Tryz.ntmps17
  go_upto_region 2 with fail
  rw [← HW3.out]
  have k0 : W3.cell? ⟨w.heap.size, 0, none⟩ = some (.int .i64 2) := by simpa using X1.out.cell 0
  obtain ⟨n3, hn3⟩ : ∃ n3, w.heap.size + 1 + 1 = n3 := ⟨_, rfl⟩
  have HN3 := Lib.hid hn3
  rw [hn3] at X3 ⊢
  clear HW3 hn3
  go_wp2
  have x1 := X1.out.cell 1
  have d1 := X3.out.cell 1
  have f1 := X3.out.frozen 1
  have x2 := X1.out.cell 2
  have d2 := X3.out.cell 2
  have f2 := X3.out.frozen 2
  simp only [List.getElem?_toArray, List.getElem?_cons_succ, List.getElem?_cons_zero] at x1 d1 x2 d2
  refine wp_region_held_drew (S := fun w' => Mod (fun k => k = n3) W3 w') (by kernel_rfl) (Mod.of_ext (Ext.drew (Ext.refl _))) (fun hHeld => ?_)
  obtain ⟨D, hD⟩ : ∃ D, D = W3.drew := ⟨_, rfl⟩
  have ED : Ext W3 D := by rw [hD]; exact (Ext.refl _).drew
  rw [← hD] at hHeld ⊢
  clear hD
  have hl1 := X1.out.lt
  have hn1 : ¬ w.heap.size = n3 := by have := HN3.out; omega
  (refine wpAnyH_take (i := 0) (v := ?_) rfl (by kernel_rfl) (by kernel_rfl) (by kernel_rfl) (fun _ _ _ h => h) (Or.inl ⟨by rfl, ?_⟩) (by assumption) ?_; rotate_left; (focus (intro w' hSw; go_simp; try with_reducible rfl)); (try simp only [List.getElem_toArray]); (try simp only [List.getElem_cons_succ]); (try simp only [List.getElem_cons_zero]); (try simp only [Act.put]); (try simp only [List.setIfInBounds_toArray]); (try simp only [List.set_cons_succ]); (try simp only [List.set_cons_zero]))
  (refine wpAnyH_take (i := 1) (v := ?_) rfl (by kernel_rfl) (by kernel_rfl) (by kernel_rfl) (fun _ _ _ h => h) (Or.inl ⟨by rfl, ?_⟩) (by assumption) ?_; rotate_left; (focus (intro w' hSw; have kc1 := (hSw.cell w.heap.size 1 hl1 hn1).trans x1; go_simp; try with_reducible rfl)); (try simp only [List.getElem_toArray]); (try simp only [List.getElem_cons_succ]); (try simp only [List.getElem_cons_zero]); (try simp only [Act.put]); (try simp only [List.setIfInBounds_toArray]); (try simp only [List.set_cons_succ]); (try simp only [List.set_cons_zero]))
  (refine wpAnyH_take (i := 2) (v := ?_) rfl (by kernel_rfl) (by kernel_rfl) (by kernel_rfl) (fun _ _ _ h => h) (Or.inl ⟨by rfl, ?_⟩) (by assumption) ?_; rotate_left; (focus (intro w' hSw; go_simp; try with_reducible rfl)); (try simp only [List.getElem_toArray]); (try simp only [List.getElem_cons_succ]); (try simp only [List.getElem_cons_zero]); (try simp only [Act.put]); (try simp only [List.setIfInBounds_toArray]); (try simp only [List.set_cons_succ]); (try simp only [List.set_cons_zero]))
  (refine wpAnyH_take (i := 3) (v := ?_) rfl (by kernel_rfl) (by kernel_rfl) (by kernel_rfl) (fun _ _ _ h => h) (Or.inl ⟨by rfl, ?_⟩) (by assumption) ?_; rotate_left; (focus (intro w' hSw; have kc2 := (hSw.cell w.heap.size 2 hl1 hn1).trans x2; go_simp; try with_reducible rfl)); (try simp only [List.getElem_toArray]); (try simp only [List.getElem_cons_succ]); (try simp only [List.getElem_cons_zero]); (try simp only [Act.put]); (try simp only [List.setIfInBounds_toArray]); (try simp only [List.set_cons_succ]); (try simp only [List.set_cons_zero]))
  replace d1 := cell_ext ED d1
  replace f1 := (X3.out.ext ED).frozen 1
  replace d2 := cell_ext ED d2
  replace f2 := (X3.out.ext ED).frozen 2
  (refine wpAnyH_take (i := 4) (v := ?_) rfl (by kernel_rfl) (by kernel_rfl) (by kernel_rfl) (fun _ _ _ h => h) (Or.inl ⟨by rfl, ?_⟩) (by assumption) ?_; rotate_left; (focus (intro w' hSw; go_simp; try with_reducible rfl)); (try simp only [List.getElem_toArray]); (try simp only [List.getElem_cons_succ]); (try simp only [List.getElem_cons_zero]); (try simp only [Act.put]); (try simp only [List.setIfInBounds_toArray]); (try simp only [List.set_cons_succ]); (try simp only [List.set_cons_zero]))
  (refine wpAnyH_ready (rs := [5]) (by kernel_rfl) (by simp) ?_; refine AllReadyH.cons rfl (fun K hK => ?_) AllReadyH.nil; go_simp; refine hK.out _ _ ((Mod.of_ext (S := fun k => k = n3) ED).set1 (o := 1) (.string tx)) (fun hHeld => ?_); clear hK K; (try simp only [Act.put]); (try simp only [List.getElem_toArray]); (try simp only [List.getElem_cons_succ]); (try simp only [List.getElem_cons_zero]); (try simp only [List.setIfInBounds_toArray]); (try simp only [List.set_cons_succ]); (try simp only [List.set_cons_zero]))
  (refine wpAnyH_take (i := 6) (v := ?_) rfl (by kernel_rfl) (by kernel_rfl) (by kernel_rfl) (fun _ _ _ h => h) (Or.inl ⟨by rfl, ?_⟩) (by assumption) ?_; rotate_left; (focus (intro w' hSw; go_simp; try with_reducible rfl)); (try simp only [List.getElem_toArray]); (try simp only [List.getElem_cons_succ]); (try simp only [List.getElem_cons_zero]); (try simp only [Act.put]); (try simp only [List.setIfInBounds_toArray]); (try simp only [List.set_cons_succ]); (try simp only [List.set_cons_zero]))
  (refine wpAnyH_ready (rs := [7]) (by kernel_rfl) (by simp) ?_; refine AllReadyH.cons rfl (fun K hK => ?_) AllReadyH.nil; go_simp; refine hK.out _ _ (((Mod.of_ext (S := fun k => k = n3) ED).set1 (o := 1) (.string tx)).set1 (o := 2) (.string vl)) (fun hHeld => ?_); clear hK K; (try simp only [Act.put]); (try simp only [List.getElem_toArray]); (try simp only [List.getElem_cons_succ]); (try simp only [List.getElem_cons_zero]); (try simp only [List.setIfInBounds_toArray]); (try simp only [List.set_cons_succ]); (try simp only [List.set_cons_zero]))
  refine wpAnyH_done (by kernel_rfl) ?_ _
  go_upto_region 19 with fail
  have B3 := Lib.hid (show Blk _ n3 47 #[.int .i64 2, .string tx, .string vl, .string ⟨#[]⟩, .int .u32 0, .int .u32 0, .int .u32 0, .int .u32 0, .slice none 0 0, .bool false, .int .u32 0] by simpa using (((X3.out.ext ED)).set_ 1 (.string tx)).set_ 2 (.string vl))
  have M3 := Lib.hid (((Mod.of_ext (S := fun k => k = n3) ED).set1 (o := 1) (.string tx)).set1 (o := 2) (.string vl))
  generalize ((D.setCell ⟨n3, 1, none⟩ (.string tx)).setCell ⟨n3, 2, none⟩ (.string vl)) = W9 at *
  have Y2 := Lib.hid (X2.out.mod M3.out (by have := HN3.out; omega))
  go_wp2_with (first | (refine wpList_load_row rfl 47 _ rfl _ rfl 47 _ _ _ B3.out Tryz.underlying47 rfl hiM ?_) | (refine wpList_load_row rfl 47 _ rfl _ rfl 47 _ _ _ (Blk.drew B3.out) Tryz.underlying47 rfl hiM ?_) | (refine wpList_store_M rfl 47 _ _ rfl (w.heap.size + 1) _ rfl rfl 47 _ Y2.out hiM rfl (by simp [Value.oneCell']) ?_; intro w9 P9 M9) | (refine wpList_store_M rfl 47 _ _ rfl (w.heap.size + 1) _ rfl rfl 47 _ (Blk.drew Y2.out) hiM rfl (by simp [Value.oneCell']) ?_; intro w9 P9 M9))
  refine bodyPost_ret_by (results_cell_row Tryz.results17 _ _ (w.heap.size + 1) 47 _ _ _ rfl P9 Tryz.underlying47 rfl hiM) rfl ?_
  refine ⟨_, rfl, by exact .inl ⟨rfl, rfl⟩, ?_⟩
  have E9 := Mod.toExt E3 M3.out (fun k hk he => by have := HN3.out; omega)
  first | exact Mod.toExt E9 M9 (fun k hk he => by omega) | exact Mod.toExt E9.drew M9 (fun k hk he => by omega)
set_option maxHeartbeats 3000000 in
theorem qown_3 (tx vl la : ByteArray) (c1 c2 c3 c4 : Int) (mo : List Int) (on : Bool) (co : Int) (Av : Option Addr) (L cv : Nat) (w : World) : Calls Tryz.prog 17 #[.agg #[.int .i64 3, .string tx, .string vl, .string la, .int .u32 c1, .int .u32 c2, .int .u32 c3, .int .u32 c4, .slice Av L cv, .bool on, .int .u32 co]] w (OwQ ⟨3, tx, vl, la, c1, c2, c3, c4, mo, on, co⟩ 3 (.slice Av L cv) w) := by
  have hiM : (Tryz.prog.info? 47).map (·.size) = some 11 := by kernel_rfl
  obtain ⟨W3, hW3⟩ : ∃ W3, W3 = ((w.alloc (.cells #[.int .i64 3, .string tx, .string vl, .string la, .int .u32 c1, .int .u32 c2, .int .u32 c3, .int .u32 c4, .slice Av L cv, .bool on, .int .u32 co] 47)).alloc (.cells #[.int .i64 0, .string ⟨#[]⟩, .string ⟨#[]⟩, .string ⟨#[]⟩, .int .u32 0, .int .u32 0, .int .u32 0, .int .u32 0, .slice none 0 0, .bool false, .int .u32 0] 47)).alloc (.cells #[.int .i64 3, .string ⟨#[]⟩, .string ⟨#[]⟩, .string ⟨#[]⟩, .int .u32 0, .int .u32 0, .int .u32 0, .int .u32 0, .slice none 0 0, .bool false, .int .u32 0] 47) := ⟨_, rfl⟩
  have E3 : Ext w W3 := by rw [hW3]; exact (((Ext.refl _).alloc _).alloc _).alloc _
  have X1 := Lib.hid (show Blk W3 w.heap.size 47 #[.int .i64 3, .string tx, .string vl, .string la, .int .u32 c1, .int .u32 c2, .int .u32 c3, .int .u32 c4, .slice Av L cv, .bool on, .int .u32 co] by rw [hW3]; exact ((Blk.new w _ _).alloc _).alloc _)
  have X2 := Lib.hid (show Blk W3 (w.heap.size + 1) 47 #[.int .i64 0, .string ⟨#[]⟩, .string ⟨#[]⟩, .string ⟨#[]⟩, .int .u32 0, .int .u32 0, .int .u32 0, .int .u32 0, .slice none 0 0, .bool false, .int .u32 0] by rw [hW3]; exact (Blk.at_ _ _ (by simp)).alloc _)
  have X3 := Lib.hid (show Blk W3 (w.heap.size + 1 + 1) 47 #[.int .i64 3, .string ⟨#[]⟩, .string ⟨#[]⟩, .string ⟨#[]⟩, .int .u32 0, .int .u32 0, .int .u32 0, .int .u32 0, .slice none 0 0, .bool false, .int .u32 0] by rw [hW3]; exact (Blk.at_ _ _ (by simp)))
  have HW3 := Lib.hid hW3
  clear hW3
  go_enter Tryz.func17, Tryz.ntmps17
  go_upto_region 2 with fail
  rw [← HW3.out]
  have k0 : W3.cell? ⟨w.heap.size, 0, none⟩ = some (.int .i64 3) := by simpa using X1.out.cell 0
  obtain ⟨n3, hn3⟩ : ∃ n3, w.heap.size + 1 + 1 = n3 := ⟨_, rfl⟩
  have HN3 := Lib.hid hn3
  rw [hn3] at X3 ⊢
  clear HW3 hn3
  go_upto_region 19 with fail
  have B3 := Lib.hid (show Blk _ n3 47 #[.int .i64 3, .string ⟨#[]⟩, .string ⟨#[]⟩, .string ⟨#[]⟩, .int .u32 0, .int .u32 0, .int .u32 0, .int .u32 0, .slice none 0 0, .bool false, .int .u32 0] by simpa using X3.out)
  have M3 := Lib.hid (Mod.refl (fun k => k = n3) W3)
  have Y2 := Lib.hid (X2.out.mod M3.out (by have := HN3.out; omega))
  go_wp2_with (first | (refine wpList_load_row rfl 47 _ rfl _ rfl 47 _ _ _ B3.out Tryz.underlying47 rfl hiM ?_) | (refine wpList_load_row rfl 47 _ rfl _ rfl 47 _ _ _ (Blk.drew B3.out) Tryz.underlying47 rfl hiM ?_) | (refine wpList_store_M rfl 47 _ _ rfl (w.heap.size + 1) _ rfl rfl 47 _ Y2.out hiM rfl (by simp [Value.oneCell']) ?_; intro w9 P9 M9) | (refine wpList_store_M rfl 47 _ _ rfl (w.heap.size + 1) _ rfl rfl 47 _ (Blk.drew Y2.out) hiM rfl (by simp [Value.oneCell']) ?_; intro w9 P9 M9))
  refine bodyPost_ret_by (results_cell_row Tryz.results17 _ _ (w.heap.size + 1) 47 _ _ _ rfl P9 Tryz.underlying47 rfl hiM) rfl ?_
  refine ⟨_, rfl, by exact .inl ⟨rfl, rfl⟩, ?_⟩
  have E9 := Mod.toExt E3 M3.out (fun k hk he => by have := HN3.out; omega)
  first | exact Mod.toExt E9 M9 (fun k hk he => by omega) | exact Mod.toExt E9.drew M9 (fun k hk he => by omega)
set_option maxHeartbeats 3000000 in
theorem qown_4 (tx vl la : ByteArray) (c1 c2 c3 c4 : Int) (mo : List Int) (on : Bool) (co : Int) (Av : Option Addr) (L cv : Nat) (w : World) : Calls Tryz.prog 17 #[.agg #[.int .i64 4, .string tx, .string vl, .string la, .int .u32 c1, .int .u32 c2, .int .u32 c3, .int .u32 c4, .slice Av L cv, .bool on, .int .u32 co]] w (OwQ ⟨4, tx, vl, la, c1, c2, c3, c4, mo, on, co⟩ 4 (.slice Av L cv) w) := by
  have hiM : (Tryz.prog.info? 47).map (·.size) = some 11 := by kernel_rfl
  obtain ⟨W3, hW3⟩ : ∃ W3, W3 = ((w.alloc (.cells #[.int .i64 4, .string tx, .string vl, .string la, .int .u32 c1, .int .u32 c2, .int .u32 c3, .int .u32 c4, .slice Av L cv, .bool on, .int .u32 co] 47)).alloc (.cells #[.int .i64 0, .string ⟨#[]⟩, .string ⟨#[]⟩, .string ⟨#[]⟩, .int .u32 0, .int .u32 0, .int .u32 0, .int .u32 0, .slice none 0 0, .bool false, .int .u32 0] 47)).alloc (.cells #[.int .i64 4, .string ⟨#[]⟩, .string ⟨#[]⟩, .string ⟨#[]⟩, .int .u32 0, .int .u32 0, .int .u32 0, .int .u32 0, .slice none 0 0, .bool false, .int .u32 0] 47) := ⟨_, rfl⟩
  have E3 : Ext w W3 := by rw [hW3]; exact (((Ext.refl _).alloc _).alloc _).alloc _
  have X1 := Lib.hid (show Blk W3 w.heap.size 47 #[.int .i64 4, .string tx, .string vl, .string la, .int .u32 c1, .int .u32 c2, .int .u32 c3, .int .u32 c4, .slice Av L cv, .bool on, .int .u32 co] by rw [hW3]; exact ((Blk.new w _ _).alloc _).alloc _)
  have X2 := Lib.hid (show Blk W3 (w.heap.size + 1) 47 #[.int .i64 0, .string ⟨#[]⟩, .string ⟨#[]⟩, .string ⟨#[]⟩, .int .u32 0, .int .u32 0, .int .u32 0, .int .u32 0, .slice none 0 0, .bool false, .int .u32 0] by rw [hW3]; exact (Blk.at_ _ _ (by simp)).alloc _)
  have X3 := Lib.hid (show Blk W3 (w.heap.size + 1 + 1) 47 #[.int .i64 4, .string ⟨#[]⟩, .string ⟨#[]⟩, .string ⟨#[]⟩, .int .u32 0, .int .u32 0, .int .u32 0, .int .u32 0, .slice none 0 0, .bool false, .int .u32 0] by rw [hW3]; exact (Blk.at_ _ _ (by simp)))
  have HW3 := Lib.hid hW3
  clear hW3
  go_enter Tryz.func17, Tryz.ntmps17
  go_upto_region 2 with fail
  rw [← HW3.out]
  have k0 : W3.cell? ⟨w.heap.size, 0, none⟩ = some (.int .i64 4) := by simpa using X1.out.cell 0
  obtain ⟨n3, hn3⟩ : ∃ n3, w.heap.size + 1 + 1 = n3 := ⟨_, rfl⟩
  have HN3 := Lib.hid hn3
  rw [hn3] at X3 ⊢
  clear HW3 hn3
  have x1 := X1.out.cell 1
  have d1 := X3.out.cell 1
  have f1 := X3.out.frozen 1
  simp only [List.getElem?_toArray, List.getElem?_cons_succ, List.getElem?_cons_zero] at x1 d1
  go_upto_region 19 with fail
  have B3 := Lib.hid (show Blk _ n3 47 #[.int .i64 4, .string tx, .string ⟨#[]⟩, .string ⟨#[]⟩, .int .u32 0, .int .u32 0, .int .u32 0, .int .u32 0, .slice none 0 0, .bool false, .int .u32 0] by simpa using (X3.out).set_ 1 (.string tx))
  have M3 := Lib.hid ((Mod.refl (fun k => k = n3) W3).set1 (o := 1) (.string tx))
  generalize (W3.setCell ⟨n3, 1, none⟩ (.string tx)) = W9 at *
  have Y2 := Lib.hid (X2.out.mod M3.out (by have := HN3.out; omega))
  go_wp2_with (first | (refine wpList_load_row rfl 47 _ rfl _ rfl 47 _ _ _ B3.out Tryz.underlying47 rfl hiM ?_) | (refine wpList_load_row rfl 47 _ rfl _ rfl 47 _ _ _ (Blk.drew B3.out) Tryz.underlying47 rfl hiM ?_) | (refine wpList_store_M rfl 47 _ _ rfl (w.heap.size + 1) _ rfl rfl 47 _ Y2.out hiM rfl (by simp [Value.oneCell']) ?_; intro w9 P9 M9) | (refine wpList_store_M rfl 47 _ _ rfl (w.heap.size + 1) _ rfl rfl 47 _ (Blk.drew Y2.out) hiM rfl (by simp [Value.oneCell']) ?_; intro w9 P9 M9))
  refine bodyPost_ret_by (results_cell_row Tryz.results17 _ _ (w.heap.size + 1) 47 _ _ _ rfl P9 Tryz.underlying47 rfl hiM) rfl ?_
  refine ⟨_, rfl, by exact .inl ⟨rfl, rfl⟩, ?_⟩
  have E9 := Mod.toExt E3 M3.out (fun k hk he => by have := HN3.out; omega)
  first | exact Mod.toExt E9 M9 (fun k hk he => by omega) | exact Mod.toExt E9.drew M9 (fun k hk he => by omega)
set_option maxHeartbeats 3000000 in
theorem qown_5 (tx vl la : ByteArray) (c1 c2 c3 c4 : Int) (mo : List Int) (on : Bool) (co : Int) (Av : Option Addr) (L cv : Nat) (w : World) : Calls Tryz.prog 17 #[.agg #[.int .i64 5, .string tx, .string vl, .string la, .int .u32 c1, .int .u32 c2, .int .u32 c3, .int .u32 c4, .slice Av L cv, .bool on, .int .u32 co]] w (OwQ ⟨5, tx, vl, la, c1, c2, c3, c4, mo, on, co⟩ 5 (.slice Av L cv) w) := by
  have hiM : (Tryz.prog.info? 47).map (·.size) = some 11 := by kernel_rfl
  obtain ⟨W3, hW3⟩ : ∃ W3, W3 = ((w.alloc (.cells #[.int .i64 5, .string tx, .string vl, .string la, .int .u32 c1, .int .u32 c2, .int .u32 c3, .int .u32 c4, .slice Av L cv, .bool on, .int .u32 co] 47)).alloc (.cells #[.int .i64 0, .string ⟨#[]⟩, .string ⟨#[]⟩, .string ⟨#[]⟩, .int .u32 0, .int .u32 0, .int .u32 0, .int .u32 0, .slice none 0 0, .bool false, .int .u32 0] 47)).alloc (.cells #[.int .i64 5, .string ⟨#[]⟩, .string ⟨#[]⟩, .string ⟨#[]⟩, .int .u32 0, .int .u32 0, .int .u32 0, .int .u32 0, .slice none 0 0, .bool false, .int .u32 0] 47) := ⟨_, rfl⟩
  have E3 : Ext w W3 := by rw [hW3]; exact (((Ext.refl _).alloc _).alloc _).alloc _
  have X1 := Lib.hid (show Blk W3 w.heap.size 47 #[.int .i64 5, .string tx, .string vl, .string la, .int .u32 c1, .int .u32 c2, .int .u32 c3, .int .u32 c4, .slice Av L cv, .bool on, .int .u32 co] by rw [hW3]; exact ((Blk.new w _ _).alloc _).alloc _)
  have X2 := Lib.hid (show Blk W3 (w.heap.size + 1) 47 #[.int .i64 0, .string ⟨#[]⟩, .string ⟨#[]⟩, .string ⟨#[]⟩, .int .u32 0, .int .u32 0, .int .u32 0, .int .u32 0, .slice none 0 0, .bool false, .int .u32 0] by rw [hW3]; exact (Blk.at_ _ _ (by simp)).alloc _)
  have X3 := Lib.hid (show Blk W3 (w.heap.size + 1 + 1) 47 #[.int .i64 5, .string ⟨#[]⟩, .string ⟨#[]⟩, .string ⟨#[]⟩, .int .u32 0, .int .u32 0, .int .u32 0, .int .u32 0, .slice none 0 0, .bool false, .int .u32 0] by rw [hW3]; exact (Blk.at_ _ _ (by simp)))
  have HW3 := Lib.hid hW3
  clear hW3
  go_enter Tryz.func17, Tryz.ntmps17
  go_upto_region 2 with fail
  rw [← HW3.out]
  have k0 : W3.cell? ⟨w.heap.size, 0, none⟩ = some (.int .i64 5) := by simpa using X1.out.cell 0
  obtain ⟨n3, hn3⟩ : ∃ n3, w.heap.size + 1 + 1 = n3 := ⟨_, rfl⟩
  have HN3 := Lib.hid hn3
  rw [hn3] at X3 ⊢
  clear HW3 hn3
  have x1 := X1.out.cell 1
  have d1 := X3.out.cell 1
  have f1 := X3.out.frozen 1
  simp only [List.getElem?_toArray, List.getElem?_cons_succ, List.getElem?_cons_zero] at x1 d1
  go_upto_region 19 with fail
  have B3 := Lib.hid (show Blk _ n3 47 #[.int .i64 5, .string tx, .string ⟨#[]⟩, .string ⟨#[]⟩, .int .u32 0, .int .u32 0, .int .u32 0, .int .u32 0, .slice none 0 0, .bool false, .int .u32 0] by simpa using (X3.out).set_ 1 (.string tx))
  have M3 := Lib.hid ((Mod.refl (fun k => k = n3) W3).set1 (o := 1) (.string tx))
  generalize (W3.setCell ⟨n3, 1, none⟩ (.string tx)) = W9 at *
  have Y2 := Lib.hid (X2.out.mod M3.out (by have := HN3.out; omega))
  go_wp2_with (first | (refine wpList_load_row rfl 47 _ rfl _ rfl 47 _ _ _ B3.out Tryz.underlying47 rfl hiM ?_) | (refine wpList_load_row rfl 47 _ rfl _ rfl 47 _ _ _ (Blk.drew B3.out) Tryz.underlying47 rfl hiM ?_) | (refine wpList_store_M rfl 47 _ _ rfl (w.heap.size + 1) _ rfl rfl 47 _ Y2.out hiM rfl (by simp [Value.oneCell']) ?_; intro w9 P9 M9) | (refine wpList_store_M rfl 47 _ _ rfl (w.heap.size + 1) _ rfl rfl 47 _ (Blk.drew Y2.out) hiM rfl (by simp [Value.oneCell']) ?_; intro w9 P9 M9))
  refine bodyPost_ret_by (results_cell_row Tryz.results17 _ _ (w.heap.size + 1) 47 _ _ _ rfl P9 Tryz.underlying47 rfl hiM) rfl ?_
  refine ⟨_, rfl, by exact .inl ⟨rfl, rfl⟩, ?_⟩
  have E9 := Mod.toExt E3 M3.out (fun k hk he => by have := HN3.out; omega)
  first | exact Mod.toExt E9 M9 (fun k hk he => by omega) | exact Mod.toExt E9.drew M9 (fun k hk he => by omega)
set_option maxHeartbeats 3000000 in
theorem qown_6 (tx vl la : ByteArray) (c1 c2 c3 c4 : Int) (mo : List Int) (on : Bool) (co : Int) (Av : Option Addr) (L cv : Nat) (w : World) : Calls Tryz.prog 17 #[.agg #[.int .i64 6, .string tx, .string vl, .string la, .int .u32 c1, .int .u32 c2, .int .u32 c3, .int .u32 c4, .slice Av L cv, .bool on, .int .u32 co]] w (OwQ ⟨6, tx, vl, la, c1, c2, c3, c4, mo, on, co⟩ 6 (.slice Av L cv) w) := by
  have hiM : (Tryz.prog.info? 47).map (·.size) = some 11 := by kernel_rfl
  obtain ⟨W3, hW3⟩ : ∃ W3, W3 = ((w.alloc (.cells #[.int .i64 6, .string tx, .string vl, .string la, .int .u32 c1, .int .u32 c2, .int .u32 c3, .int .u32 c4, .slice Av L cv, .bool on, .int .u32 co] 47)).alloc (.cells #[.int .i64 0, .string ⟨#[]⟩, .string ⟨#[]⟩, .string ⟨#[]⟩, .int .u32 0, .int .u32 0, .int .u32 0, .int .u32 0, .slice none 0 0, .bool false, .int .u32 0] 47)).alloc (.cells #[.int .i64 6, .string ⟨#[]⟩, .string ⟨#[]⟩, .string ⟨#[]⟩, .int .u32 0, .int .u32 0, .int .u32 0, .int .u32 0, .slice none 0 0, .bool false, .int .u32 0] 47) := ⟨_, rfl⟩
  have E3 : Ext w W3 := by rw [hW3]; exact (((Ext.refl _).alloc _).alloc _).alloc _
  have X1 := Lib.hid (show Blk W3 w.heap.size 47 #[.int .i64 6, .string tx, .string vl, .string la, .int .u32 c1, .int .u32 c2, .int .u32 c3, .int .u32 c4, .slice Av L cv, .bool on, .int .u32 co] by rw [hW3]; exact ((Blk.new w _ _).alloc _).alloc _)
  have X2 := Lib.hid (show Blk W3 (w.heap.size + 1) 47 #[.int .i64 0, .string ⟨#[]⟩, .string ⟨#[]⟩, .string ⟨#[]⟩, .int .u32 0, .int .u32 0, .int .u32 0, .int .u32 0, .slice none 0 0, .bool false, .int .u32 0] by rw [hW3]; exact (Blk.at_ _ _ (by simp)).alloc _)
  have X3 := Lib.hid (show Blk W3 (w.heap.size + 1 + 1) 47 #[.int .i64 6, .string ⟨#[]⟩, .string ⟨#[]⟩, .string ⟨#[]⟩, .int .u32 0, .int .u32 0, .int .u32 0, .int .u32 0, .slice none 0 0, .bool false, .int .u32 0] by rw [hW3]; exact (Blk.at_ _ _ (by simp)))
  have HW3 := Lib.hid hW3
  clear hW3
  go_enter Tryz.func17, Tryz.ntmps17
  go_upto_region 2 with fail
  rw [← HW3.out]
  have k0 : W3.cell? ⟨w.heap.size, 0, none⟩ = some (.int .i64 6) := by simpa using X1.out.cell 0
  obtain ⟨n3, hn3⟩ : ∃ n3, w.heap.size + 1 + 1 = n3 := ⟨_, rfl⟩
  have HN3 := Lib.hid hn3
  rw [hn3] at X3 ⊢
  clear HW3 hn3
  have x4 := X1.out.cell 4
  have d4 := X3.out.cell 4
  have f4 := X3.out.frozen 4
  have x5 := X1.out.cell 5
  have d5 := X3.out.cell 5
  have f5 := X3.out.frozen 5
  have x6 := X1.out.cell 6
  have d6 := X3.out.cell 6
  have f6 := X3.out.frozen 6
  have x7 := X1.out.cell 7
  have d7 := X3.out.cell 7
  have f7 := X3.out.frozen 7
  simp only [List.getElem?_toArray, List.getElem?_cons_succ, List.getElem?_cons_zero] at x4 d4 x5 d5 x6 d6 x7 d7
  go_upto_region 19 with fail
  have B3 := Lib.hid (show Blk _ n3 47 #[.int .i64 6, .string ⟨#[]⟩, .string ⟨#[]⟩, .string ⟨#[]⟩, .int .u32 c1, .int .u32 c2, .int .u32 c3, .int .u32 c4, .slice none 0 0, .bool false, .int .u32 0] by simpa using ((((X3.out).set_ 4 (.int .u32 c1)).set_ 5 (.int .u32 c2)).set_ 6 (.int .u32 c3)).set_ 7 (.int .u32 c4))
  have M3 := Lib.hid (((((Mod.refl (fun k => k = n3) W3).set1 (o := 4) (.int .u32 c1)).set1 (o := 5) (.int .u32 c2)).set1 (o := 6) (.int .u32 c3)).set1 (o := 7) (.int .u32 c4))
  generalize ((((W3.setCell ⟨n3, 4, none⟩ (.int .u32 c1)).setCell ⟨n3, 5, none⟩ (.int .u32 c2)).setCell ⟨n3, 6, none⟩ (.int .u32 c3)).setCell ⟨n3, 7, none⟩ (.int .u32 c4)) = W9 at *
  have Y2 := Lib.hid (X2.out.mod M3.out (by have := HN3.out; omega))
  go_wp2_with (first | (refine wpList_load_row rfl 47 _ rfl _ rfl 47 _ _ _ B3.out Tryz.underlying47 rfl hiM ?_) | (refine wpList_load_row rfl 47 _ rfl _ rfl 47 _ _ _ (Blk.drew B3.out) Tryz.underlying47 rfl hiM ?_) | (refine wpList_store_M rfl 47 _ _ rfl (w.heap.size + 1) _ rfl rfl 47 _ Y2.out hiM rfl (by simp [Value.oneCell']) ?_; intro w9 P9 M9) | (refine wpList_store_M rfl 47 _ _ rfl (w.heap.size + 1) _ rfl rfl 47 _ (Blk.drew Y2.out) hiM rfl (by simp [Value.oneCell']) ?_; intro w9 P9 M9))
  refine bodyPost_ret_by (results_cell_row Tryz.results17 _ _ (w.heap.size + 1) 47 _ _ _ rfl P9 Tryz.underlying47 rfl hiM) rfl ?_
  refine ⟨_, rfl, by exact .inl ⟨rfl, rfl⟩, ?_⟩
  have E9 := Mod.toExt E3 M3.out (fun k hk he => by have := HN3.out; omega)
  first | exact Mod.toExt E9 M9 (fun k hk he => by omega) | exact Mod.toExt E9.drew M9 (fun k hk he => by omega)
set_option maxHeartbeats 3000000 in
theorem qown_7 (tx vl la : ByteArray) (c1 c2 c3 c4 : Int) (mo : List Int) (on : Bool) (co : Int) (Av : Option Addr) (L cv : Nat) (w : World) : Calls Tryz.prog 17 #[.agg #[.int .i64 7, .string tx, .string vl, .string la, .int .u32 c1, .int .u32 c2, .int .u32 c3, .int .u32 c4, .slice Av L cv, .bool on, .int .u32 co]] w (OwQ ⟨7, tx, vl, la, c1, c2, c3, c4, mo, on, co⟩ 7 (.slice Av L cv) w) := by
  have hiM : (Tryz.prog.info? 47).map (·.size) = some 11 := by kernel_rfl
  obtain ⟨W3, hW3⟩ : ∃ W3, W3 = ((w.alloc (.cells #[.int .i64 7, .string tx, .string vl, .string la, .int .u32 c1, .int .u32 c2, .int .u32 c3, .int .u32 c4, .slice Av L cv, .bool on, .int .u32 co] 47)).alloc (.cells #[.int .i64 0, .string ⟨#[]⟩, .string ⟨#[]⟩, .string ⟨#[]⟩, .int .u32 0, .int .u32 0, .int .u32 0, .int .u32 0, .slice none 0 0, .bool false, .int .u32 0] 47)).alloc (.cells #[.int .i64 7, .string ⟨#[]⟩, .string ⟨#[]⟩, .string ⟨#[]⟩, .int .u32 0, .int .u32 0, .int .u32 0, .int .u32 0, .slice none 0 0, .bool false, .int .u32 0] 47) := ⟨_, rfl⟩
  have E3 : Ext w W3 := by rw [hW3]; exact (((Ext.refl _).alloc _).alloc _).alloc _
  have X1 := Lib.hid (show Blk W3 w.heap.size 47 #[.int .i64 7, .string tx, .string vl, .string la, .int .u32 c1, .int .u32 c2, .int .u32 c3, .int .u32 c4, .slice Av L cv, .bool on, .int .u32 co] by rw [hW3]; exact ((Blk.new w _ _).alloc _).alloc _)
  have X2 := Lib.hid (show Blk W3 (w.heap.size + 1) 47 #[.int .i64 0, .string ⟨#[]⟩, .string ⟨#[]⟩, .string ⟨#[]⟩, .int .u32 0, .int .u32 0, .int .u32 0, .int .u32 0, .slice none 0 0, .bool false, .int .u32 0] by rw [hW3]; exact (Blk.at_ _ _ (by simp)).alloc _)
  have X3 := Lib.hid (show Blk W3 (w.heap.size + 1 + 1) 47 #[.int .i64 7, .string ⟨#[]⟩, .string ⟨#[]⟩, .string ⟨#[]⟩, .int .u32 0, .int .u32 0, .int .u32 0, .int .u32 0, .slice none 0 0, .bool false, .int .u32 0] by rw [hW3]; exact (Blk.at_ _ _ (by simp)))
  have HW3 := Lib.hid hW3
  clear hW3
  go_enter Tryz.func17, Tryz.ntmps17
  go_upto_region 2 with fail
  rw [← HW3.out]
  have k0 : W3.cell? ⟨w.heap.size, 0, none⟩ = some (.int .i64 7) := by simpa using X1.out.cell 0
  obtain ⟨n3, hn3⟩ : ∃ n3, w.heap.size + 1 + 1 = n3 := ⟨_, rfl⟩
  have HN3 := Lib.hid hn3
  rw [hn3] at X3 ⊢
  clear HW3 hn3
  have x9 := X1.out.cell 9
  have d9 := X3.out.cell 9
  have f9 := X3.out.frozen 9
  simp only [List.getElem?_toArray, List.getElem?_cons_succ, List.getElem?_cons_zero] at x9 d9
  go_upto_region 19 with fail
  have B3 := Lib.hid (show Blk _ n3 47 #[.int .i64 7, .string ⟨#[]⟩, .string ⟨#[]⟩, .string ⟨#[]⟩, .int .u32 0, .int .u32 0, .int .u32 0, .int .u32 0, .slice none 0 0, .bool on, .int .u32 0] by simpa using (X3.out).set_ 9 (.bool on))
  have M3 := Lib.hid ((Mod.refl (fun k => k = n3) W3).set1 (o := 9) (.bool on))
  generalize (W3.setCell ⟨n3, 9, none⟩ (.bool on)) = W9 at *
  have Y2 := Lib.hid (X2.out.mod M3.out (by have := HN3.out; omega))
  go_wp2_with (first | (refine wpList_load_row rfl 47 _ rfl _ rfl 47 _ _ _ B3.out Tryz.underlying47 rfl hiM ?_) | (refine wpList_load_row rfl 47 _ rfl _ rfl 47 _ _ _ (Blk.drew B3.out) Tryz.underlying47 rfl hiM ?_) | (refine wpList_store_M rfl 47 _ _ rfl (w.heap.size + 1) _ rfl rfl 47 _ Y2.out hiM rfl (by simp [Value.oneCell']) ?_; intro w9 P9 M9) | (refine wpList_store_M rfl 47 _ _ rfl (w.heap.size + 1) _ rfl rfl 47 _ (Blk.drew Y2.out) hiM rfl (by simp [Value.oneCell']) ?_; intro w9 P9 M9))
  refine bodyPost_ret_by (results_cell_row Tryz.results17 _ _ (w.heap.size + 1) 47 _ _ _ rfl P9 Tryz.underlying47 rfl hiM) rfl ?_
  refine ⟨_, rfl, by exact .inl ⟨rfl, rfl⟩, ?_⟩
  have E9 := Mod.toExt E3 M3.out (fun k hk he => by have := HN3.out; omega)
  first | exact Mod.toExt E9 M9 (fun k hk he => by omega) | exact Mod.toExt E9.drew M9 (fun k hk he => by omega)
set_option maxHeartbeats 3000000 in
theorem qown_8 (tx vl la : ByteArray) (c1 c2 c3 c4 : Int) (mo : List Int) (on : Bool) (co : Int) (Av : Option Addr) (L cv : Nat) (w : World) : Calls Tryz.prog 17 #[.agg #[.int .i64 8, .string tx, .string vl, .string la, .int .u32 c1, .int .u32 c2, .int .u32 c3, .int .u32 c4, .slice Av L cv, .bool on, .int .u32 co]] w (OwQ ⟨8, tx, vl, la, c1, c2, c3, c4, mo, on, co⟩ 8 (.slice Av L cv) w) := by
  have hiM : (Tryz.prog.info? 47).map (·.size) = some 11 := by kernel_rfl
  obtain ⟨W3, hW3⟩ : ∃ W3, W3 = ((w.alloc (.cells #[.int .i64 8, .string tx, .string vl, .string la, .int .u32 c1, .int .u32 c2, .int .u32 c3, .int .u32 c4, .slice Av L cv, .bool on, .int .u32 co] 47)).alloc (.cells #[.int .i64 0, .string ⟨#[]⟩, .string ⟨#[]⟩, .string ⟨#[]⟩, .int .u32 0, .int .u32 0, .int .u32 0, .int .u32 0, .slice none 0 0, .bool false, .int .u32 0] 47)).alloc (.cells #[.int .i64 8, .string ⟨#[]⟩, .string ⟨#[]⟩, .string ⟨#[]⟩, .int .u32 0, .int .u32 0, .int .u32 0, .int .u32 0, .slice none 0 0, .bool false, .int .u32 0] 47) := ⟨_, rfl⟩
  have E3 : Ext w W3 := by rw [hW3]; exact (((Ext.refl _).alloc _).alloc _).alloc _
  have X1 := Lib.hid (show Blk W3 w.heap.size 47 #[.int .i64 8, .string tx, .string vl, .string la, .int .u32 c1, .int .u32 c2, .int .u32 c3, .int .u32 c4, .slice Av L cv, .bool on, .int .u32 co] by rw [hW3]; exact ((Blk.new w _ _).alloc _).alloc _)
  have X2 := Lib.hid (show Blk W3 (w.heap.size + 1) 47 #[.int .i64 0, .string ⟨#[]⟩, .string ⟨#[]⟩, .string ⟨#[]⟩, .int .u32 0, .int .u32 0, .int .u32 0, .int .u32 0, .slice none 0 0, .bool false, .int .u32 0] by rw [hW3]; exact (Blk.at_ _ _ (by simp)).alloc _)
  have X3 := Lib.hid (show Blk W3 (w.heap.size + 1 + 1) 47 #[.int .i64 8, .string ⟨#[]⟩, .string ⟨#[]⟩, .string ⟨#[]⟩, .int .u32 0, .int .u32 0, .int .u32 0, .int .u32 0, .slice none 0 0, .bool false, .int .u32 0] by rw [hW3]; exact (Blk.at_ _ _ (by simp)))
  have HW3 := Lib.hid hW3
  clear hW3
  go_enter Tryz.func17, Tryz.ntmps17
  go_upto_region 2 with fail
  rw [← HW3.out]
  have k0 : W3.cell? ⟨w.heap.size, 0, none⟩ = some (.int .i64 8) := by simpa using X1.out.cell 0
  obtain ⟨n3, hn3⟩ : ∃ n3, w.heap.size + 1 + 1 = n3 := ⟨_, rfl⟩
  have HN3 := Lib.hid hn3
  rw [hn3] at X3 ⊢
  clear HW3 hn3
  have x1 := X1.out.cell 1
  have d1 := X3.out.cell 1
  have f1 := X3.out.frozen 1
  simp only [List.getElem?_toArray, List.getElem?_cons_succ, List.getElem?_cons_zero] at x1 d1
  go_upto_region 19 with fail
  have B3 := Lib.hid (show Blk _ n3 47 #[.int .i64 8, .string tx, .string ⟨#[]⟩, .string ⟨#[]⟩, .int .u32 0, .int .u32 0, .int .u32 0, .int .u32 0, .slice none 0 0, .bool false, .int .u32 0] by simpa using (X3.out).set_ 1 (.string tx))
  have M3 := Lib.hid ((Mod.refl (fun k => k = n3) W3).set1 (o := 1) (.string tx))
  generalize (W3.setCell ⟨n3, 1, none⟩ (.string tx)) = W9 at *
  have Y2 := Lib.hid (X2.out.mod M3.out (by have := HN3.out; omega))
  go_wp2_with (first | (refine wpList_load_row rfl 47 _ rfl _ rfl 47 _ _ _ B3.out Tryz.underlying47 rfl hiM ?_) | (refine wpList_load_row rfl 47 _ rfl _ rfl 47 _ _ _ (Blk.drew B3.out) Tryz.underlying47 rfl hiM ?_) | (refine wpList_store_M rfl 47 _ _ rfl (w.heap.size + 1) _ rfl rfl 47 _ Y2.out hiM rfl (by simp [Value.oneCell']) ?_; intro w9 P9 M9) | (refine wpList_store_M rfl 47 _ _ rfl (w.heap.size + 1) _ rfl rfl 47 _ (Blk.drew Y2.out) hiM rfl (by simp [Value.oneCell']) ?_; intro w9 P9 M9))
  refine bodyPost_ret_by (results_cell_row Tryz.results17 _ _ (w.heap.size + 1) 47 _ _ _ rfl P9 Tryz.underlying47 rfl hiM) rfl ?_
  refine ⟨_, rfl, by exact .inl ⟨rfl, rfl⟩, ?_⟩
  have E9 := Mod.toExt E3 M3.out (fun k hk he => by have := HN3.out; omega)
  first | exact Mod.toExt E9 M9 (fun k hk he => by omega) | exact Mod.toExt E9.drew M9 (fun k hk he => by omega)
set_option maxHeartbeats 3000000 in
theorem qown_9 (tx vl la : ByteArray) (c1 c2 c3 c4 : Int) (mo : List Int) (on : Bool) (co : Int) (Av : Option Addr) (L cv : Nat) (w : World) : Calls Tryz.prog 17 #[.agg #[.int .i64 9, .string tx, .string vl, .string la, .int .u32 c1, .int .u32 c2, .int .u32 c3, .int .u32 c4, .slice Av L cv, .bool on, .int .u32 co]] w (OwQ ⟨9, tx, vl, la, c1, c2, c3, c4, mo, on, co⟩ 9 (.slice Av L cv) w) := by
  have hiM : (Tryz.prog.info? 47).map (·.size) = some 11 := by kernel_rfl
  obtain ⟨W3, hW3⟩ : ∃ W3, W3 = ((w.alloc (.cells #[.int .i64 9, .string tx, .string vl, .string la, .int .u32 c1, .int .u32 c2, .int .u32 c3, .int .u32 c4, .slice Av L cv, .bool on, .int .u32 co] 47)).alloc (.cells #[.int .i64 0, .string ⟨#[]⟩, .string ⟨#[]⟩, .string ⟨#[]⟩, .int .u32 0, .int .u32 0, .int .u32 0, .int .u32 0, .slice none 0 0, .bool false, .int .u32 0] 47)).alloc (.cells #[.int .i64 9, .string ⟨#[]⟩, .string ⟨#[]⟩, .string ⟨#[]⟩, .int .u32 0, .int .u32 0, .int .u32 0, .int .u32 0, .slice none 0 0, .bool false, .int .u32 0] 47) := ⟨_, rfl⟩
  have E3 : Ext w W3 := by rw [hW3]; exact (((Ext.refl _).alloc _).alloc _).alloc _
  have X1 := Lib.hid (show Blk W3 w.heap.size 47 #[.int .i64 9, .string tx, .string vl, .string la, .int .u32 c1, .int .u32 c2, .int .u32 c3, .int .u32 c4, .slice Av L cv, .bool on, .int .u32 co] by rw [hW3]; exact ((Blk.new w _ _).alloc _).alloc _)
  have X2 := Lib.hid (show Blk W3 (w.heap.size + 1) 47 #[.int .i64 0, .string ⟨#[]⟩, .string ⟨#[]⟩, .string ⟨#[]⟩, .int .u32 0, .int .u32 0, .int .u32 0, .int .u32 0, .slice none 0 0, .bool false, .int .u32 0] by rw [hW3]; exact (Blk.at_ _ _ (by simp)).alloc _)
  have X3 := Lib.hid (show Blk W3 (w.heap.size + 1 + 1) 47 #[.int .i64 9, .string ⟨#[]⟩, .string ⟨#[]⟩, .string ⟨#[]⟩, .int .u32 0, .int .u32 0, .int .u32 0, .int .u32 0, .slice none 0 0, .bool false, .int .u32 0] by rw [hW3]; exact (Blk.at_ _ _ (by simp)))
  have HW3 := Lib.hid hW3
  clear hW3
  go_enter Tryz.func17, Tryz.ntmps17
  go_upto_region 2 with fail
  rw [← HW3.out]
  have k0 : W3.cell? ⟨w.heap.size, 0, none⟩ = some (.int .i64 9) := by simpa using X1.out.cell 0
  obtain ⟨n3, hn3⟩ : ∃ n3, w.heap.size + 1 + 1 = n3 := ⟨_, rfl⟩
  have HN3 := Lib.hid hn3
  rw [hn3] at X3 ⊢
  clear HW3 hn3
  have x10 := X1.out.cell 10
  have d10 := X3.out.cell 10
  have f10 := X3.out.frozen 10
  simp only [List.getElem?_toArray, List.getElem?_cons_succ, List.getElem?_cons_zero] at x10 d10
  go_upto_region 19 with fail
  have B3 := Lib.hid (show Blk _ n3 47 #[.int .i64 9, .string ⟨#[]⟩, .string ⟨#[]⟩, .string ⟨#[]⟩, .int .u32 0, .int .u32 0, .int .u32 0, .int .u32 0, .slice none 0 0, .bool false, .int .u32 co] by simpa using (X3.out).set_ 10 (.int .u32 co))
  have M3 := Lib.hid ((Mod.refl (fun k => k = n3) W3).set1 (o := 10) (.int .u32 co))
  generalize (W3.setCell ⟨n3, 10, none⟩ (.int .u32 co)) = W9 at *
  have Y2 := Lib.hid (X2.out.mod M3.out (by have := HN3.out; omega))
  go_wp2_with (first | (refine wpList_load_row rfl 47 _ rfl _ rfl 47 _ _ _ B3.out Tryz.underlying47 rfl hiM ?_) | (refine wpList_load_row rfl 47 _ rfl _ rfl 47 _ _ _ (Blk.drew B3.out) Tryz.underlying47 rfl hiM ?_) | (refine wpList_store_M rfl 47 _ _ rfl (w.heap.size + 1) _ rfl rfl 47 _ Y2.out hiM rfl (by simp [Value.oneCell']) ?_; intro w9 P9 M9) | (refine wpList_store_M rfl 47 _ _ rfl (w.heap.size + 1) _ rfl rfl 47 _ (Blk.drew Y2.out) hiM rfl (by simp [Value.oneCell']) ?_; intro w9 P9 M9))
  refine bodyPost_ret_by (results_cell_row Tryz.results17 _ _ (w.heap.size + 1) 47 _ _ _ rfl P9 Tryz.underlying47 rfl hiM) rfl ?_
  refine ⟨_, rfl, by exact .inl ⟨rfl, rfl⟩, ?_⟩
  have E9 := Mod.toExt E3 M3.out (fun k hk he => by have := HN3.out; omega)
  first | exact Mod.toExt E9 M9 (fun k hk he => by omega) | exact Mod.toExt E9.drew M9 (fun k hk he => by omega)
set_option maxHeartbeats 3000000 in
theorem qown_10 (tx vl la : ByteArray) (c1 c2 c3 c4 : Int) (mo : List Int) (on : Bool) (co : Int) (Av : Option Addr) (L cv : Nat) (w : World) : Calls Tryz.prog 17 #[.agg #[.int .i64 10, .string tx, .string vl, .string la, .int .u32 c1, .int .u32 c2, .int .u32 c3, .int .u32 c4, .slice Av L cv, .bool on, .int .u32 co]] w (OwQ ⟨10, tx, vl, la, c1, c2, c3, c4, mo, on, co⟩ 10 (.slice Av L cv) w) := by
  have hiM : (Tryz.prog.info? 47).map (·.size) = some 11 := by kernel_rfl
  obtain ⟨W3, hW3⟩ : ∃ W3, W3 = ((w.alloc (.cells #[.int .i64 10, .string tx, .string vl, .string la, .int .u32 c1, .int .u32 c2, .int .u32 c3, .int .u32 c4, .slice Av L cv, .bool on, .int .u32 co] 47)).alloc (.cells #[.int .i64 0, .string ⟨#[]⟩, .string ⟨#[]⟩, .string ⟨#[]⟩, .int .u32 0, .int .u32 0, .int .u32 0, .int .u32 0, .slice none 0 0, .bool false, .int .u32 0] 47)).alloc (.cells #[.int .i64 10, .string ⟨#[]⟩, .string ⟨#[]⟩, .string ⟨#[]⟩, .int .u32 0, .int .u32 0, .int .u32 0, .int .u32 0, .slice none 0 0, .bool false, .int .u32 0] 47) := ⟨_, rfl⟩
  have E3 : Ext w W3 := by rw [hW3]; exact (((Ext.refl _).alloc _).alloc _).alloc _
  have X1 := Lib.hid (show Blk W3 w.heap.size 47 #[.int .i64 10, .string tx, .string vl, .string la, .int .u32 c1, .int .u32 c2, .int .u32 c3, .int .u32 c4, .slice Av L cv, .bool on, .int .u32 co] by rw [hW3]; exact ((Blk.new w _ _).alloc _).alloc _)
  have X2 := Lib.hid (show Blk W3 (w.heap.size + 1) 47 #[.int .i64 0, .string ⟨#[]⟩, .string ⟨#[]⟩, .string ⟨#[]⟩, .int .u32 0, .int .u32 0, .int .u32 0, .int .u32 0, .slice none 0 0, .bool false, .int .u32 0] by rw [hW3]; exact (Blk.at_ _ _ (by simp)).alloc _)
  have X3 := Lib.hid (show Blk W3 (w.heap.size + 1 + 1) 47 #[.int .i64 10, .string ⟨#[]⟩, .string ⟨#[]⟩, .string ⟨#[]⟩, .int .u32 0, .int .u32 0, .int .u32 0, .int .u32 0, .slice none 0 0, .bool false, .int .u32 0] by rw [hW3]; exact (Blk.at_ _ _ (by simp)))
  have HW3 := Lib.hid hW3
  clear hW3
  go_enter Tryz.func17, Tryz.ntmps17
  go_upto_region 2 with fail
  rw [← HW3.out]
  have k0 : W3.cell? ⟨w.heap.size, 0, none⟩ = some (.int .i64 10) := by simpa using X1.out.cell 0
  obtain ⟨n3, hn3⟩ : ∃ n3, w.heap.size + 1 + 1 = n3 := ⟨_, rfl⟩
  have HN3 := Lib.hid hn3
  rw [hn3] at X3 ⊢
  clear HW3 hn3
  go_wp2
  have x1 := X1.out.cell 1
  have d1 := X3.out.cell 1
  have f1 := X3.out.frozen 1
  have x9 := X1.out.cell 9
  have d9 := X3.out.cell 9
  have f9 := X3.out.frozen 9
  have x2 := X1.out.cell 2
  have d2 := X3.out.cell 2
  have f2 := X3.out.frozen 2
  have x3 := X1.out.cell 3
  have d3 := X3.out.cell 3
  have f3 := X3.out.frozen 3
  simp only [List.getElem?_toArray, List.getElem?_cons_succ, List.getElem?_cons_zero] at x1 d1 x9 d9 x2 d2 x3 d3
  refine wp_region_held_drew (S := fun w' => Mod (fun k => k = n3) W3 w') (by kernel_rfl) (Mod.of_ext (Ext.drew (Ext.refl _))) (fun hHeld => ?_)
  obtain ⟨D, hD⟩ : ∃ D, D = W3.drew := ⟨_, rfl⟩
  have ED : Ext W3 D := by rw [hD]; exact (Ext.refl _).drew
  rw [← hD] at hHeld ⊢
  clear hD
  have hl1 := X1.out.lt
  have hn1 : ¬ w.heap.size = n3 := by have := HN3.out; omega
  (refine wpAnyH_take (i := 0) (v := ?_) rfl (by kernel_rfl) (by kernel_rfl) (by kernel_rfl) (fun _ _ _ h => h) (Or.inl ⟨by rfl, ?_⟩) (by assumption) ?_; rotate_left; (focus (intro w' hSw; go_simp; try with_reducible rfl)); (try simp only [List.getElem_toArray]); (try simp only [List.getElem_cons_succ]); (try simp only [List.getElem_cons_zero]); (try simp only [Act.put]); (try simp only [List.setIfInBounds_toArray]); (try simp only [List.set_cons_succ]); (try simp only [List.set_cons_zero]))
  (refine wpAnyH_take (i := 1) (v := ?_) rfl (by kernel_rfl) (by kernel_rfl) (by kernel_rfl) (fun _ _ _ h => h) (Or.inl ⟨by rfl, ?_⟩) (by assumption) ?_; rotate_left; (focus (intro w' hSw; have kc1 := (hSw.cell w.heap.size 1 hl1 hn1).trans x1; go_simp; try with_reducible rfl)); (try simp only [List.getElem_toArray]); (try simp only [List.getElem_cons_succ]); (try simp only [List.getElem_cons_zero]); (try simp only [Act.put]); (try simp only [List.setIfInBounds_toArray]); (try simp only [List.set_cons_succ]); (try simp only [List.set_cons_zero]))
  (refine wpAnyH_take (i := 2) (v := ?_) rfl (by kernel_rfl) (by kernel_rfl) (by kernel_rfl) (fun _ _ _ h => h) (Or.inl ⟨by rfl, ?_⟩) (by assumption) ?_; rotate_left; (focus (intro w' hSw; go_simp; try with_reducible rfl)); (try simp only [List.getElem_toArray]); (try simp only [List.getElem_cons_succ]); (try simp only [List.getElem_cons_zero]); (try simp only [Act.put]); (try simp only [List.setIfInBounds_toArray]); (try simp only [List.set_cons_succ]); (try simp only [List.set_cons_zero]))
  (refine wpAnyH_take (i := 3) (v := ?_) rfl (by kernel_rfl) (by kernel_rfl) (by kernel_rfl) (fun _ _ _ h => h) (Or.inl ⟨by rfl, ?_⟩) (by assumption) ?_; rotate_left; (focus (intro w' hSw; have kc9 := (hSw.cell w.heap.size 9 hl1 hn1).trans x9; go_simp; try with_reducible rfl)); (try simp only [List.getElem_toArray]); (try simp only [List.getElem_cons_succ]); (try simp only [List.getElem_cons_zero]); (try simp only [Act.put]); (try simp only [List.setIfInBounds_toArray]); (try simp only [List.set_cons_succ]); (try simp only [List.set_cons_zero]))
  (refine wpAnyH_take (i := 4) (v := ?_) rfl (by kernel_rfl) (by kernel_rfl) (by kernel_rfl) (fun _ _ _ h => h) (Or.inl ⟨by rfl, ?_⟩) (by assumption) ?_; rotate_left; (focus (intro w' hSw; go_simp; try with_reducible rfl)); (try simp only [List.getElem_toArray]); (try simp only [List.getElem_cons_succ]); (try simp only [List.getElem_cons_zero]); (try simp only [Act.put]); (try simp only [List.setIfInBounds_toArray]); (try simp only [List.set_cons_succ]); (try simp only [List.set_cons_zero]))
  (refine wpAnyH_take (i := 5) (v := ?_) rfl (by kernel_rfl) (by kernel_rfl) (by kernel_rfl) (fun _ _ _ h => h) (Or.inl ⟨by rfl, ?_⟩) (by assumption) ?_; rotate_left; (focus (intro w' hSw; have kc2 := (hSw.cell w.heap.size 2 hl1 hn1).trans x2; go_simp; try with_reducible rfl)); (try simp only [List.getElem_toArray]); (try simp only [List.getElem_cons_succ]); (try simp only [List.getElem_cons_zero]); (try simp only [Act.put]); (try simp only [List.setIfInBounds_toArray]); (try simp only [List.set_cons_succ]); (try simp only [List.set_cons_zero]))
  (refine wpAnyH_take (i := 6) (v := ?_) rfl (by kernel_rfl) (by kernel_rfl) (by kernel_rfl) (fun _ _ _ h => h) (Or.inl ⟨by rfl, ?_⟩) (by assumption) ?_; rotate_left; (focus (intro w' hSw; go_simp; try with_reducible rfl)); (try simp only [List.getElem_toArray]); (try simp only [List.getElem_cons_succ]); (try simp only [List.getElem_cons_zero]); (try simp only [Act.put]); (try simp only [List.setIfInBounds_toArray]); (try simp only [List.set_cons_succ]); (try simp only [List.set_cons_zero]))
  (refine wpAnyH_take (i := 7) (v := ?_) rfl (by kernel_rfl) (by kernel_rfl) (by kernel_rfl) (fun _ _ _ h => h) (Or.inl ⟨by rfl, ?_⟩) (by assumption) ?_; rotate_left; (focus (intro w' hSw; have kc3 := (hSw.cell w.heap.size 3 hl1 hn1).trans x3; go_simp; try with_reducible rfl)); (try simp only [List.getElem_toArray]); (try simp only [List.getElem_cons_succ]); (try simp only [List.getElem_cons_zero]); (try simp only [Act.put]); (try simp only [List.setIfInBounds_toArray]); (try simp only [List.set_cons_succ]); (try simp only [List.set_cons_zero]))
  replace d1 := cell_ext ED d1
  replace f1 := (X3.out.ext ED).frozen 1
  replace d9 := cell_ext ED d9
  replace f9 := (X3.out.ext ED).frozen 9
  replace d2 := cell_ext ED d2
  replace f2 := (X3.out.ext ED).frozen 2
  replace d3 := cell_ext ED d3
  replace f3 := (X3.out.ext ED).frozen 3
  (refine wpAnyH_take (i := 8) (v := ?_) rfl (by kernel_rfl) (by kernel_rfl) (by kernel_rfl) (fun _ _ _ h => h) (Or.inl ⟨by rfl, ?_⟩) (by assumption) ?_; rotate_left; (focus (intro w' hSw; go_simp; try with_reducible rfl)); (try simp only [List.getElem_toArray]); (try simp only [List.getElem_cons_succ]); (try simp only [List.getElem_cons_zero]); (try simp only [Act.put]); (try simp only [List.setIfInBounds_toArray]); (try simp only [List.set_cons_succ]); (try simp only [List.set_cons_zero]))
  (refine wpAnyH_ready (rs := [9]) (by kernel_rfl) (by simp) ?_; refine AllReadyH.cons rfl (fun K hK => ?_) AllReadyH.nil; go_simp; refine hK.out _ _ ((Mod.of_ext (S := fun k => k = n3) ED).set1 (o := 1) (.string tx)) (fun hHeld => ?_); clear hK K; (try simp only [Act.put]); (try simp only [List.getElem_toArray]); (try simp only [List.getElem_cons_succ]); (try simp only [List.getElem_cons_zero]); (try simp only [List.setIfInBounds_toArray]); (try simp only [List.set_cons_succ]); (try simp only [List.set_cons_zero]))
  (refine wpAnyH_take (i := 10) (v := ?_) rfl (by kernel_rfl) (by kernel_rfl) (by kernel_rfl) (fun _ _ _ h => h) (Or.inl ⟨by rfl, ?_⟩) (by assumption) ?_; rotate_left; (focus (intro w' hSw; go_simp; try with_reducible rfl)); (try simp only [List.getElem_toArray]); (try simp only [List.getElem_cons_succ]); (try simp only [List.getElem_cons_zero]); (try simp only [Act.put]); (try simp only [List.setIfInBounds_toArray]); (try simp only [List.set_cons_succ]); (try simp only [List.set_cons_zero]))
  (refine wpAnyH_ready (rs := [11]) (by kernel_rfl) (by simp) ?_; refine AllReadyH.cons rfl (fun K hK => ?_) AllReadyH.nil; go_simp; refine hK.out _ _ (((Mod.of_ext (S := fun k => k = n3) ED).set1 (o := 1) (.string tx)).set1 (o := 9) (.bool on)) (fun hHeld => ?_); clear hK K; (try simp only [Act.put]); (try simp only [List.getElem_toArray]); (try simp only [List.getElem_cons_succ]); (try simp only [List.getElem_cons_zero]); (try simp only [List.setIfInBounds_toArray]); (try simp only [List.set_cons_succ]); (try simp only [List.set_cons_zero]))
  (refine wpAnyH_take (i := 12) (v := ?_) rfl (by kernel_rfl) (by kernel_rfl) (by kernel_rfl) (fun _ _ _ h => h) (Or.inl ⟨by rfl, ?_⟩) (by assumption) ?_; rotate_left; (focus (intro w' hSw; go_simp; try with_reducible rfl)); (try simp only [List.getElem_toArray]); (try simp only [List.getElem_cons_succ]); (try simp only [List.getElem_cons_zero]); (try simp only [Act.put]); (try simp only [List.setIfInBounds_toArray]); (try simp only [List.set_cons_succ]); (try simp only [List.set_cons_zero]))
  (refine wpAnyH_ready (rs := [13]) (by kernel_rfl) (by simp) ?_; refine AllReadyH.cons rfl (fun K hK => ?_) AllReadyH.nil; go_simp; refine hK.out _ _ ((((Mod.of_ext (S := fun k => k = n3) ED).set1 (o := 1) (.string tx)).set1 (o := 9) (.bool on)).set1 (o := 2) (.string vl)) (fun hHeld => ?_); clear hK K; (try simp only [Act.put]); (try simp only [List.getElem_toArray]); (try simp only [List.getElem_cons_succ]); (try simp only [List.getElem_cons_zero]); (try simp only [List.setIfInBounds_toArray]); (try simp only [List.set_cons_succ]); (try simp only [List.set_cons_zero]))
  (refine wpAnyH_take (i := 14) (v := ?_) rfl (by kernel_rfl) (by kernel_rfl) (by kernel_rfl) (fun _ _ _ h => h) (Or.inl ⟨by rfl, ?_⟩) (by assumption) ?_; rotate_left; (focus (intro w' hSw; go_simp; try with_reducible rfl)); (try simp only [List.getElem_toArray]); (try simp only [List.getElem_cons_succ]); (try simp only [List.getElem_cons_zero]); (try simp only [Act.put]); (try simp only [List.setIfInBounds_toArray]); (try simp only [List.set_cons_succ]); (try simp only [List.set_cons_zero]))
  (refine wpAnyH_ready (rs := [15]) (by kernel_rfl) (by simp) ?_; refine AllReadyH.cons rfl (fun K hK => ?_) AllReadyH.nil; go_simp; refine hK.out _ _ (((((Mod.of_ext (S := fun k => k = n3) ED).set1 (o := 1) (.string tx)).set1 (o := 9) (.bool on)).set1 (o := 2) (.string vl)).set1 (o := 3) (.string la)) (fun hHeld => ?_); clear hK K; (try simp only [Act.put]); (try simp only [List.getElem_toArray]); (try simp only [List.getElem_cons_succ]); (try simp only [List.getElem_cons_zero]); (try simp only [List.setIfInBounds_toArray]); (try simp only [List.set_cons_succ]); (try simp only [List.set_cons_zero]))
  refine wpAnyH_done (by kernel_rfl) ?_ _
  go_upto_region 19 with fail
  have B3 := Lib.hid (show Blk _ n3 47 #[.int .i64 10, .string tx, .string vl, .string la, .int .u32 0, .int .u32 0, .int .u32 0, .int .u32 0, .slice none 0 0, .bool on, .int .u32 0] by simpa using (((((X3.out.ext ED)).set_ 1 (.string tx)).set_ 9 (.bool on)).set_ 2 (.string vl)).set_ 3 (.string la))
  have M3 := Lib.hid (((((Mod.of_ext (S := fun k => k = n3) ED).set1 (o := 1) (.string tx)).set1 (o := 9) (.bool on)).set1 (o := 2) (.string vl)).set1 (o := 3) (.string la))
  generalize ((((D.setCell ⟨n3, 1, none⟩ (.string tx)).setCell ⟨n3, 9, none⟩ (.bool on)).setCell ⟨n3, 2, none⟩ (.string vl)).setCell ⟨n3, 3, none⟩ (.string la)) = W9 at *
  have Y2 := Lib.hid (X2.out.mod M3.out (by have := HN3.out; omega))
  go_wp2_with (first | (refine wpList_load_row rfl 47 _ rfl _ rfl 47 _ _ _ B3.out Tryz.underlying47 rfl hiM ?_) | (refine wpList_load_row rfl 47 _ rfl _ rfl 47 _ _ _ (Blk.drew B3.out) Tryz.underlying47 rfl hiM ?_) | (refine wpList_store_M rfl 47 _ _ rfl (w.heap.size + 1) _ rfl rfl 47 _ Y2.out hiM rfl (by simp [Value.oneCell']) ?_; intro w9 P9 M9) | (refine wpList_store_M rfl 47 _ _ rfl (w.heap.size + 1) _ rfl rfl 47 _ (Blk.drew Y2.out) hiM rfl (by simp [Value.oneCell']) ?_; intro w9 P9 M9))
  refine bodyPost_ret_by (results_cell_row Tryz.results17 _ _ (w.heap.size + 1) 47 _ _ _ rfl P9 Tryz.underlying47 rfl hiM) rfl ?_
  refine ⟨_, rfl, by exact .inl ⟨rfl, rfl⟩, ?_⟩
  have E9 := Mod.toExt E3 M3.out (fun k hk he => by have := HN3.out; omega)
  first | exact Mod.toExt E9 M9 (fun k hk he => by omega) | exact Mod.toExt E9.drew M9 (fun k hk he => by omega)
theorem qown_any (r : Rq) (k : Nat) (Av : Option Addr) (L cv : Nat) (w : World) (hk : r.k = (k : Int)) (h1 : 1 ≤ k) (h10 : k ≤ 10) : Calls Tryz.prog 17 #[.agg (rqA r (.slice Av L cv))] w (OwQ r k (.slice Av L cv) w) := by
  obtain ⟨kk, tx, vl, la, c1, c2, c3, c4, mo, on, co⟩ := r
  dsimp only at hk
  subst hk
  rcases k with _ | _ | _ | _ | _ | _ | _ | _ | _ | _ | _ | k
  · omega
  · exact qown_1 tx vl la c1 c2 c3 c4 mo on co Av L cv w
  · exact qown_2 tx vl la c1 c2 c3 c4 mo on co Av L cv w
  · exact qown_3 tx vl la c1 c2 c3 c4 mo on co Av L cv w
  · exact qown_4 tx vl la c1 c2 c3 c4 mo on co Av L cv w
  · exact qown_5 tx vl la c1 c2 c3 c4 mo on co Av L cv w
  · exact qown_6 tx vl la c1 c2 c3 c4 mo on co Av L cv w
  · exact qown_7 tx vl la c1 c2 c3 c4 mo on co Av L cv w
  · exact qown_8 tx vl la c1 c2 c3 c4 mo on co Av L cv w
  · exact qown_9 tx vl la c1 c2 c3 c4 mo on co Av L cv w
  · exact qown_10 tx vl la c1 c2 c3 c4 mo on co Av L cv w
  · omega
set_option maxHeartbeats 3000000 in
theorem qsame_any (r : Rq) (v1 v2 : Value) (w : World) (h1 : RI .u8 w v1 r.mo) (h2 : RI .u8 w v2 r.mo) : Calls Tryz.prog 16 #[.agg (rqA r v1), .agg (rqA r v2)] w fun e w' => e = .returned (.bool true) ∧ Ext w w' := by
  obtain ⟨A1, d1, rfl, -, -⟩ := h1.shape
  obtain ⟨A2, d2, rfl, -, -⟩ := h2.shape
  obtain ⟨k, tx, vl, la, c1, c2, c3, c4, mo, on, co⟩ := r
  dsimp only at h1 h2 ⊢
  have HB := Lib.hid (fun w' (E : Ext w w') => Fr.bytes_any (.slice A1 mo.length d1) (.slice A2 mo.length d2) mo mo w' (RdN.ext h1 E) (RdN.ext h2 E))
  rw [show decide (mo = mo) = true by simp] at HB
  obtain ⟨L, hL⟩ : ∃ L, mo.length = L := ⟨_, rfl⟩
  rw [hL] at HB ⊢
  clear h1 h2 hL
  go_enter Tryz.func16, Tryz.ntmps16
  go_wp2_with fail
  refine (HB.out _ (by repeat (first | with_reducible exact Ext.refl _ | refine Ext.drewN ?_ _ | refine Ext.drew ?_ | refine Ext.alloc ?_ _ | assumption | (refine Below.trans ?_ (by assumption)) | (refine Ext.trans ?_ (by assumption)) | (refine Below.trans ?_ (Below.mono (by assumption) (by omega)))))).mono ?_
  rintro e w1 ⟨rfl, E1⟩
  have EE : Ext w w1 := (by repeat (first | with_reducible exact Ext.refl _ | refine Ext.drewN ?_ _ | refine Ext.drew ?_ | refine Ext.alloc ?_ _ | assumption | (refine Below.trans ?_ (by assumption)) | (refine Ext.trans ?_ (by assumption)) | (refine Below.trans ?_ (Below.mono (by assumption) (by omega)))))
  go_wp2
  go_ret
  refine ⟨?_, EE⟩
  simp
end Go.Proofs.YtldijmappinngaaGreatDoor
