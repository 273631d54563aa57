/- parlourref03.Own, Great and Same of messages, by contract. Conditions: few bytes. -/
import Derived.Test.YtldijmappinngaaGreatDoorOQ04
namespace Go.Proofs.YtldijmappinngaaGreatDoor
open Go.RowKit Go.Kb
set_option maxRecDepth 100000

/-- what Own answers -/
def OwP (m : Mg) (v : Value) (w : World) (e : Ending) (w' : World) : Prop :=
  ∃ v', e = .returned (.agg (mgA (ownM m) v')) ∧ (((ownM m).da = [] ∧ v' = .slice none 0 0) ∨ ((ownM m).da = m.da ∧ v' = v)) ∧ Ext w w'
set_option maxHeartbeats 3000000 in
theorem mown_1 (ch se wi pk co : Int) (nm la : ByteArray) (wa : Bool) (da : List Int) (Av : Option Addr) (L cv : Nat) (w : World) : Calls Tryz.prog 9 #[.agg #[.int .i64 1, .int .u32 ch, .int .u32 se, .int .u32 wi, .int .u32 pk, .int .u32 co, .string nm, .string la, .bool wa, .slice Av L cv]] w (OwP ⟨1, ch, se, wi, pk, co, nm, la, wa, da⟩ (.slice Av L cv) w) := by
  have hiM : (Tryz.prog.info? 28).map (·.size) = some 10 := by kernel_rfl
  have HOW : Hid (ownM ⟨1, ch, se, wi, pk, co, nm, la, wa, da⟩ = ⟨1, 0, 0, 0, 0, co, ⟨#[]⟩, la, false, da⟩) := Lib.hid (by simp [ownM, rowL, putAll, putM, vOf, mg0, paCode, paLang, paWords, str_back])
  obtain ⟨W3, hW3⟩ : ∃ W3, W3 = ((w.alloc (.cells #[.int .i64 1, .int .u32 ch, .int .u32 se, .int .u32 wi, .int .u32 pk, .int .u32 co, .string nm, .string la, .bool wa, .slice Av L cv] 28)).alloc (.cells #[.int .i64 0, .int .u32 0, .int .u32 0, .int .u32 0, .int .u32 0, .int .u32 0, .string ⟨#[]⟩, .string ⟨#[]⟩, .bool false, .slice none 0 0] 28)).alloc (.cells #[.int .i64 1, .int .u32 0, .int .u32 0, .int .u32 0, .int .u32 0, .int .u32 0, .string ⟨#[]⟩, .string ⟨#[]⟩, .bool false, .slice none 0 0] 28) := ⟨_, rfl⟩
  have E3 : Ext w W3 := by rw [hW3]; exact (((Ext.refl _).alloc _).alloc _).alloc _
  have X1 := Lib.hid (show Blk W3 w.heap.size 28 #[.int .i64 1, .int .u32 ch, .int .u32 se, .int .u32 wi, .int .u32 pk, .int .u32 co, .string nm, .string la, .bool wa, .slice Av L cv] by rw [hW3]; exact ((Blk.new w _ _).alloc _).alloc _)
  have X2 := Lib.hid (show Blk W3 (w.heap.size + 1) 28 #[.int .i64 0, .int .u32 0, .int .u32 0, .int .u32 0, .int .u32 0, .int .u32 0, .string ⟨#[]⟩, .string ⟨#[]⟩, .bool false, .slice none 0 0] by rw [hW3]; exact (Blk.at_ _ _ (by simp)).alloc _)
  have X3 := Lib.hid (show Blk W3 (w.heap.size + 1 + 1) 28 #[.int .i64 1, .int .u32 0, .int .u32 0, .int .u32 0, .int .u32 0, .int .u32 0, .string ⟨#[]⟩, .string ⟨#[]⟩, .bool false, .slice none 0 0] by rw [hW3]; exact (Blk.at_ _ _ (by simp)))
  have HW3 := Lib.hid hW3
  clear hW3
  go_enter Tryz.func9, Tryz.ntmps9
  go_upto_region 2 with fail
  rw [← HW3.out]
  have k0 : W3.cell? ⟨w.heap.size, 0, none⟩ = some (.int .i64 1) := by simpa using X1.out.cell 0
  obtain ⟨n3, hn3⟩ : ∃ n3, w.heap.size + 1 + 1 = n3 := ⟨_, rfl⟩
  have HN3 := Lib.hid hn3
  rw [hn3] at X3 ⊢
  clear HW3 hn3
  go_wp2
  have c5 := X1.out.cell 5
  have d5 := X3.out.cell 5
  have f5 := X3.out.frozen 5
  have c9 := X1.out.cell 9
  have d9 := X3.out.cell 9
  have f9 := X3.out.frozen 9
  have c7 := X1.out.cell 7
  have d7 := X3.out.cell 7
  have f7 := X3.out.frozen 7
  simp only [List.getElem?_toArray, List.getElem?_cons_succ, List.getElem?_cons_zero] at c5 d5 c9 d9 c7 d7
  go_region
  go_upto_region 28 with fail
  have B3 := Lib.hid (show Blk _ n3 28 #[.int .i64 1, .int .u32 0, .int .u32 0, .int .u32 0, .int .u32 0, .int .u32 co, .string ⟨#[]⟩, .string la, .bool false, .slice Av L cv] by simpa using (((X3.out).set_ 5 (.int .u32 co)).set_ 9 (.slice Av L cv)).set_ 7 (.string la))
  have M3 := Lib.hid ((((Mod.refl (fun k => k = n3) W3).set1 (o := 5) (.int .u32 co)).set1 (o := 9) (.slice Av L cv)).set1 (o := 7) (.string la))
  generalize (((W3.setCell ⟨n3, 5, none⟩ (.int .u32 co)).setCell ⟨n3, 9, none⟩ (.slice Av L cv)).setCell ⟨n3, 7, none⟩ (.string la)) = W9 at *
  have Y2 := Lib.hid (X2.out.mod M3.out (by have := HN3.out; omega))
  go_wp2_with (first | (refine wpList_load_row rfl 28 _ rfl _ rfl 28 _ _ _ B3.out Tryz.underlying28 rfl hiM ?_) | (refine wpList_load_row rfl 28 _ rfl _ rfl 28 _ _ _ (Blk.drew B3.out) Tryz.underlying28 rfl hiM ?_) | (refine wpList_store_M rfl 28 _ _ rfl (w.heap.size + 1) _ rfl rfl 28 _ Y2.out hiM rfl (by simp [Value.oneCell']) ?_; intro w9 P9 M9) | (refine wpList_store_M rfl 28 _ _ rfl (w.heap.size + 1) _ rfl rfl 28 _ (Blk.drew Y2.out) hiM rfl (by simp [Value.oneCell']) ?_; intro w9 P9 M9))
  refine bodyPost_ret_by (results_cell_row Tryz.results9 _ _ (w.heap.size + 1) 28 _ _ _ rfl P9 Tryz.underlying28 rfl hiM) rfl ?_
  refine ⟨_, by rw [HOW.out], by rw [HOW.out]; exact .inr ⟨rfl, rfl⟩, ?_⟩
  have E9 := Mod.toExt E3 M3.out (fun k hk he => by have := HN3.out; omega)
  first | exact Mod.toExt E9 M9 (fun k hk he => by omega) | exact Mod.toExt E9.drew M9 (fun k hk he => by omega)
set_option maxHeartbeats 3000000 in
theorem mown_80 (ch se wi pk co : Int) (nm la : ByteArray) (wa : Bool) (da : List Int) (Av : Option Addr) (L cv : Nat) (w : World) : Calls Tryz.prog 9 #[.agg #[.int .i64 80, .int .u32 ch, .int .u32 se, .int .u32 wi, .int .u32 pk, .int .u32 co, .string nm, .string la, .bool wa, .slice Av L cv]] w (OwP ⟨80, ch, se, wi, pk, co, nm, la, wa, da⟩ (.slice Av L cv) w) := by
  have hiM : (Tryz.prog.info? 28).map (·.size) = some 10 := by kernel_rfl
  have HOW : Hid (ownM ⟨80, ch, se, wi, pk, co, nm, la, wa, da⟩ = ⟨80, 0, 0, 0, 0, 0, nm, ⟨#[]⟩, wa, da⟩) := Lib.hid (by simp [ownM, rowL, putAll, putM, vOf, mg0, paName, paRest, paWant, str_back]; try (cases wa <;> rfl))
  obtain ⟨W3, hW3⟩ : ∃ W3, W3 = ((w.alloc (.cells #[.int .i64 80, .int .u32 ch, .int .u32 se, .int .u32 wi, .int .u32 pk, .int .u32 co, .string nm, .string la, .bool wa, .slice Av L cv] 28)).alloc (.cells #[.int .i64 0, .int .u32 0, .int .u32 0, .int .u32 0, .int .u32 0, .int .u32 0, .string ⟨#[]⟩, .string ⟨#[]⟩, .bool false, .slice none 0 0] 28)).alloc (.cells #[.int .i64 80, .int .u32 0, .int .u32 0, .int .u32 0, .int .u32 0, .int .u32 0, .string ⟨#[]⟩, .string ⟨#[]⟩, .bool false, .slice none 0 0] 28) := ⟨_, rfl⟩
  have E3 : Ext w W3 := by rw [hW3]; exact (((Ext.refl _).alloc _).alloc _).alloc _
  have X1 := Lib.hid (show Blk W3 w.heap.size 28 #[.int .i64 80, .int .u32 ch, .int .u32 se, .int .u32 wi, .int .u32 pk, .int .u32 co, .string nm, .string la, .bool wa, .slice Av L cv] by rw [hW3]; exact ((Blk.new w _ _).alloc _).alloc _)
  have X2 := Lib.hid (show Blk W3 (w.heap.size + 1) 28 #[.int .i64 0, .int .u32 0, .int .u32 0, .int .u32 0, .int .u32 0, .int .u32 0, .string ⟨#[]⟩, .string ⟨#[]⟩, .bool false, .slice none 0 0] by rw [hW3]; exact (Blk.at_ _ _ (by simp)).alloc _)
  have X3 := Lib.hid (show Blk W3 (w.heap.size + 1 + 1) 28 #[.int .i64 80, .int .u32 0, .int .u32 0, .int .u32 0, .int .u32 0, .int .u32 0, .string ⟨#[]⟩, .string ⟨#[]⟩, .bool false, .slice none 0 0] by rw [hW3]; exact (Blk.at_ _ _ (by simp)))
  have HW3 := Lib.hid hW3
  clear hW3
  go_enter Tryz.func9, Tryz.ntmps9
  go_upto_region 2 with fail
  rw [← HW3.out]
  have k0 : W3.cell? ⟨w.heap.size, 0, none⟩ = some (.int .i64 80) := by simpa using X1.out.cell 0
  obtain ⟨n3, hn3⟩ : ∃ n3, w.heap.size + 1 + 1 = n3 := ⟨_, rfl⟩
  have HN3 := Lib.hid hn3
  rw [hn3] at X3 ⊢
  clear HW3 hn3
  go_wp2
  have c6 := X1.out.cell 6
  have d6 := X3.out.cell 6
  have f6 := X3.out.frozen 6
  have c8 := X1.out.cell 8
  have d8 := X3.out.cell 8
  have f8 := X3.out.frozen 8
  have c9 := X1.out.cell 9
  have d9 := X3.out.cell 9
  have f9 := X3.out.frozen 9
  simp only [List.getElem?_toArray, List.getElem?_cons_succ, List.getElem?_cons_zero] at c6 d6 c8 d8 c9 d9
  go_region
  go_upto_region 28 with fail
  have B3 := Lib.hid (show Blk _ n3 28 #[.int .i64 80, .int .u32 0, .int .u32 0, .int .u32 0, .int .u32 0, .int .u32 0, .string nm, .string ⟨#[]⟩, .bool wa, .slice Av L cv] by simpa using (((X3.out).set_ 6 (.string nm)).set_ 8 (.bool wa)).set_ 9 (.slice Av L cv))
  have M3 := Lib.hid ((((Mod.refl (fun k => k = n3) W3).set1 (o := 6) (.string nm)).set1 (o := 8) (.bool wa)).set1 (o := 9) (.slice Av L cv))
  generalize (((W3.setCell ⟨n3, 6, none⟩ (.string nm)).setCell ⟨n3, 8, none⟩ (.bool wa)).setCell ⟨n3, 9, none⟩ (.slice Av L cv)) = W9 at *
  have Y2 := Lib.hid (X2.out.mod M3.out (by have := HN3.out; omega))
  go_wp2_with (first | (refine wpList_load_row rfl 28 _ rfl _ rfl 28 _ _ _ B3.out Tryz.underlying28 rfl hiM ?_) | (refine wpList_load_row rfl 28 _ rfl _ rfl 28 _ _ _ (Blk.drew B3.out) Tryz.underlying28 rfl hiM ?_) | (refine wpList_store_M rfl 28 _ _ rfl (w.heap.size + 1) _ rfl rfl 28 _ Y2.out hiM rfl (by simp [Value.oneCell']) ?_; intro w9 P9 M9) | (refine wpList_store_M rfl 28 _ _ rfl (w.heap.size + 1) _ rfl rfl 28 _ (Blk.drew Y2.out) hiM rfl (by simp [Value.oneCell']) ?_; intro w9 P9 M9))
  refine bodyPost_ret_by (results_cell_row Tryz.results9 _ _ (w.heap.size + 1) 28 _ _ _ rfl P9 Tryz.underlying28 rfl hiM) rfl ?_
  refine ⟨_, by rw [HOW.out], by rw [HOW.out]; exact .inr ⟨rfl, rfl⟩, ?_⟩
  have E9 := Mod.toExt E3 M3.out (fun k hk he => by have := HN3.out; omega)
  first | exact Mod.toExt E9 M9 (fun k hk he => by omega) | exact Mod.toExt E9.drew M9 (fun k hk he => by omega)
set_option maxHeartbeats 3000000 in
theorem mown_81 (ch se wi pk co : Int) (nm la : ByteArray) (wa : Bool) (da : List Int) (Av : Option Addr) (L cv : Nat) (w : World) : Calls Tryz.prog 9 #[.agg #[.int .i64 81, .int .u32 ch, .int .u32 se, .int .u32 wi, .int .u32 pk, .int .u32 co, .string nm, .string la, .bool wa, .slice Av L cv]] w (OwP ⟨81, ch, se, wi, pk, co, nm, la, wa, da⟩ (.slice Av L cv) w) := by
  have hiM : (Tryz.prog.info? 28).map (·.size) = some 10 := by kernel_rfl
  have HOW : Hid (ownM ⟨81, ch, se, wi, pk, co, nm, la, wa, da⟩ = ⟨81, 0, 0, 0, 0, 0, ⟨#[]⟩, ⟨#[]⟩, false, da⟩) := Lib.hid (by simp [ownM, rowL, putAll, putM, vOf, mg0, paRest])
  obtain ⟨W3, hW3⟩ : ∃ W3, W3 = ((w.alloc (.cells #[.int .i64 81, .int .u32 ch, .int .u32 se, .int .u32 wi, .int .u32 pk, .int .u32 co, .string nm, .string la, .bool wa, .slice Av L cv] 28)).alloc (.cells #[.int .i64 0, .int .u32 0, .int .u32 0, .int .u32 0, .int .u32 0, .int .u32 0, .string ⟨#[]⟩, .string ⟨#[]⟩, .bool false, .slice none 0 0] 28)).alloc (.cells #[.int .i64 81, .int .u32 0, .int .u32 0, .int .u32 0, .int .u32 0, .int .u32 0, .string ⟨#[]⟩, .string ⟨#[]⟩, .bool false, .slice none 0 0] 28) := ⟨_, rfl⟩
  have E3 : Ext w W3 := by rw [hW3]; exact (((Ext.refl _).alloc _).alloc _).alloc _
  have X1 := Lib.hid (show Blk W3 w.heap.size 28 #[.int .i64 81, .int .u32 ch, .int .u32 se, .int .u32 wi, .int .u32 pk, .int .u32 co, .string nm, .string la, .bool wa, .slice Av L cv] by rw [hW3]; exact ((Blk.new w _ _).alloc _).alloc _)
  have X2 := Lib.hid (show Blk W3 (w.heap.size + 1) 28 #[.int .i64 0, .int .u32 0, .int .u32 0, .int .u32 0, .int .u32 0, .int .u32 0, .string ⟨#[]⟩, .string ⟨#[]⟩, .bool false, .slice none 0 0] by rw [hW3]; exact (Blk.at_ _ _ (by simp)).alloc _)
  have X3 := Lib.hid (show Blk W3 (w.heap.size + 1 + 1) 28 #[.int .i64 81, .int .u32 0, .int .u32 0, .int .u32 0, .int .u32 0, .int .u32 0, .string ⟨#[]⟩, .string ⟨#[]⟩, .bool false, .slice none 0 0] by rw [hW3]; exact (Blk.at_ _ _ (by simp)))
  have HW3 := Lib.hid hW3
  clear hW3
  go_enter Tryz.func9, Tryz.ntmps9
  go_upto_region 2 with fail
  rw [← HW3.out]
  have k0 : W3.cell? ⟨w.heap.size, 0, none⟩ = some (.int .i64 81) := by simpa using X1.out.cell 0
  obtain ⟨n3, hn3⟩ : ∃ n3, w.heap.size + 1 + 1 = n3 := ⟨_, rfl⟩
  have HN3 := Lib.hid hn3
  rw [hn3] at X3 ⊢
  clear HW3 hn3
  have c9 := X1.out.cell 9
  have d9 := X3.out.cell 9
  have f9 := X3.out.frozen 9
  simp only [List.getElem?_toArray, List.getElem?_cons_succ, List.getElem?_cons_zero] at c9 d9
  go_upto_region 28 with fail
  have B3 := Lib.hid (show Blk _ n3 28 #[.int .i64 81, .int .u32 0, .int .u32 0, .int .u32 0, .int .u32 0, .int .u32 0, .string ⟨#[]⟩, .string ⟨#[]⟩, .bool false, .slice Av L cv] by simpa using (X3.out).set_ 9 (.slice Av L cv))
  have M3 := Lib.hid ((Mod.refl (fun k => k = n3) W3).set1 (o := 9) (.slice Av L cv))
  generalize (W3.setCell ⟨n3, 9, none⟩ (.slice Av L cv)) = W9 at *
  have Y2 := Lib.hid (X2.out.mod M3.out (by have := HN3.out; omega))
  go_wp2_with (first | (refine wpList_load_row rfl 28 _ rfl _ rfl 28 _ _ _ B3.out Tryz.underlying28 rfl hiM ?_) | (refine wpList_load_row rfl 28 _ rfl _ rfl 28 _ _ _ (Blk.drew B3.out) Tryz.underlying28 rfl hiM ?_) | (refine wpList_store_M rfl 28 _ _ rfl (w.heap.size + 1) _ rfl rfl 28 _ Y2.out hiM rfl (by simp [Value.oneCell']) ?_; intro w9 P9 M9) | (refine wpList_store_M rfl 28 _ _ rfl (w.heap.size + 1) _ rfl rfl 28 _ (Blk.drew Y2.out) hiM rfl (by simp [Value.oneCell']) ?_; intro w9 P9 M9))
  refine bodyPost_ret_by (results_cell_row Tryz.results9 _ _ (w.heap.size + 1) 28 _ _ _ rfl P9 Tryz.underlying28 rfl hiM) rfl ?_
  refine ⟨_, by rw [HOW.out], by rw [HOW.out]; exact .inr ⟨rfl, rfl⟩, ?_⟩
  have E9 := Mod.toExt E3 M3.out (fun k hk he => by have := HN3.out; omega)
  first | exact Mod.toExt E9 M9 (fun k hk he => by omega) | exact Mod.toExt E9.drew M9 (fun k hk he => by omega)
set_option maxHeartbeats 3000000 in
theorem mown_82 (ch se wi pk co : Int) (nm la : ByteArray) (wa : Bool) (da : List Int) (Av : Option Addr) (L cv : Nat) (w : World) : Calls Tryz.prog 9 #[.agg #[.int .i64 82, .int .u32 ch, .int .u32 se, .int .u32 wi, .int .u32 pk, .int .u32 co, .string nm, .string la, .bool wa, .slice Av L cv]] w (OwP ⟨82, ch, se, wi, pk, co, nm, la, wa, da⟩ (.slice Av L cv) w) := by
  have hiM : (Tryz.prog.info? 28).map (·.size) = some 10 := by kernel_rfl
  have HOW : Hid (ownM ⟨82, ch, se, wi, pk, co, nm, la, wa, da⟩ = ⟨82, 0, 0, 0, 0, 0, ⟨#[]⟩, ⟨#[]⟩, false, []⟩) := Lib.hid (by simp [ownM, rowL, putAll, mg0])
  obtain ⟨W3, hW3⟩ : ∃ W3, W3 = ((w.alloc (.cells #[.int .i64 82, .int .u32 ch, .int .u32 se, .int .u32 wi, .int .u32 pk, .int .u32 co, .string nm, .string la, .bool wa, .slice Av L cv] 28)).alloc (.cells #[.int .i64 0, .int .u32 0, .int .u32 0, .int .u32 0, .int .u32 0, .int .u32 0, .string ⟨#[]⟩, .string ⟨#[]⟩, .bool false, .slice none 0 0] 28)).alloc (.cells #[.int .i64 82, .int .u32 0, .int .u32 0, .int .u32 0, .int .u32 0, .int .u32 0, .string ⟨#[]⟩, .string ⟨#[]⟩, .bool false, .slice none 0 0] 28) := ⟨_, rfl⟩
  have E3 : Ext w W3 := by rw [hW3]; exact (((Ext.refl _).alloc _).alloc _).alloc _
  have X1 := Lib.hid (show Blk W3 w.heap.size 28 #[.int .i64 82, .int .u32 ch, .int .u32 se, .int .u32 wi, .int .u32 pk, .int .u32 co, .string nm, .string la, .bool wa, .slice Av L cv] by rw [hW3]; exact ((Blk.new w _ _).alloc _).alloc _)
  have X2 := Lib.hid (show Blk W3 (w.heap.size + 1) 28 #[.int .i64 0, .int .u32 0, .int .u32 0, .int .u32 0, .int .u32 0, .int .u32 0, .string ⟨#[]⟩, .string ⟨#[]⟩, .bool false, .slice none 0 0] by rw [hW3]; exact (Blk.at_ _ _ (by simp)).alloc _)
  have X3 := Lib.hid (show Blk W3 (w.heap.size + 1 + 1) 28 #[.int .i64 82, .int .u32 0, .int .u32 0, .int .u32 0, .int .u32 0, .int .u32 0, .string ⟨#[]⟩, .string ⟨#[]⟩, .bool false, .slice none 0 0] by rw [hW3]; exact (Blk.at_ _ _ (by simp)))
  have HW3 := Lib.hid hW3
  clear hW3
  go_enter Tryz.func9, Tryz.ntmps9
  go_upto_region 2 with fail
  rw [← HW3.out]
  have k0 : W3.cell? ⟨w.heap.size, 0, none⟩ = some (.int .i64 82) := by simpa using X1.out.cell 0
  obtain ⟨n3, hn3⟩ : ∃ n3, w.heap.size + 1 + 1 = n3 := ⟨_, rfl⟩
  have HN3 := Lib.hid hn3
  rw [hn3] at X3 ⊢
  clear HW3 hn3
  go_upto_region 28 with fail
  have B3 := Lib.hid (show Blk _ n3 28 #[.int .i64 82, .int .u32 0, .int .u32 0, .int .u32 0, .int .u32 0, .int .u32 0, .string ⟨#[]⟩, .string ⟨#[]⟩, .bool false, .slice none 0 0] by simpa using X3.out)
  have M3 := Lib.hid (Mod.refl (fun k => k = n3) W3)
  have Y2 := Lib.hid (X2.out.mod M3.out (by have := HN3.out; omega))
  go_wp2_with (first | (refine wpList_load_row rfl 28 _ rfl _ rfl 28 _ _ _ B3.out Tryz.underlying28 rfl hiM ?_) | (refine wpList_load_row rfl 28 _ rfl _ rfl 28 _ _ _ (Blk.drew B3.out) Tryz.underlying28 rfl hiM ?_) | (refine wpList_store_M rfl 28 _ _ rfl (w.heap.size + 1) _ rfl rfl 28 _ Y2.out hiM rfl (by simp [Value.oneCell']) ?_; intro w9 P9 M9) | (refine wpList_store_M rfl 28 _ _ rfl (w.heap.size + 1) _ rfl rfl 28 _ (Blk.drew Y2.out) hiM rfl (by simp [Value.oneCell']) ?_; intro w9 P9 M9))
  refine bodyPost_ret_by (results_cell_row Tryz.results9 _ _ (w.heap.size + 1) 28 _ _ _ rfl P9 Tryz.underlying28 rfl hiM) rfl ?_
  refine ⟨_, by rw [HOW.out], by rw [HOW.out]; exact .inl ⟨rfl, rfl⟩, ?_⟩
  have E9 := Mod.toExt E3 M3.out (fun k hk he => by have := HN3.out; omega)
  first | exact Mod.toExt E9 M9 (fun k hk he => by omega) | exact Mod.toExt E9.drew M9 (fun k hk he => by omega)
set_option maxHeartbeats 3000000 in
theorem mown_90 (ch se wi pk co : Int) (nm la : ByteArray) (wa : Bool) (da : List Int) (Av : Option Addr) (L cv : Nat) (w : World) : Calls Tryz.prog 9 #[.agg #[.int .i64 90, .int .u32 ch, .int .u32 se, .int .u32 wi, .int .u32 pk, .int .u32 co, .string nm, .string la, .bool wa, .slice Av L cv]] w (OwP ⟨90, ch, se, wi, pk, co, nm, la, wa, da⟩ (.slice Av L cv) w) := by
  have hiM : (Tryz.prog.info? 28).map (·.size) = some 10 := by kernel_rfl
  have HOW : Hid (ownM ⟨90, ch, se, wi, pk, co, nm, la, wa, da⟩ = ⟨90, 0, se, wi, pk, 0, nm, ⟨#[]⟩, false, da⟩) := Lib.hid (by simp [ownM, rowL, putAll, putM, vOf, mg0, paName, paPacket, paRest, paSender, paWindow, str_back])
  obtain ⟨W3, hW3⟩ : ∃ W3, W3 = ((w.alloc (.cells #[.int .i64 90, .int .u32 ch, .int .u32 se, .int .u32 wi, .int .u32 pk, .int .u32 co, .string nm, .string la, .bool wa, .slice Av L cv] 28)).alloc (.cells #[.int .i64 0, .int .u32 0, .int .u32 0, .int .u32 0, .int .u32 0, .int .u32 0, .string ⟨#[]⟩, .string ⟨#[]⟩, .bool false, .slice none 0 0] 28)).alloc (.cells #[.int .i64 90, .int .u32 0, .int .u32 0, .int .u32 0, .int .u32 0, .int .u32 0, .string ⟨#[]⟩, .string ⟨#[]⟩, .bool false, .slice none 0 0] 28) := ⟨_, rfl⟩
  have E3 : Ext w W3 := by rw [hW3]; exact (((Ext.refl _).alloc _).alloc _).alloc _
  have X1 := Lib.hid (show Blk W3 w.heap.size 28 #[.int .i64 90, .int .u32 ch, .int .u32 se, .int .u32 wi, .int .u32 pk, .int .u32 co, .string nm, .string la, .bool wa, .slice Av L cv] by rw [hW3]; exact ((Blk.new w _ _).alloc _).alloc _)
  have X2 := Lib.hid (show Blk W3 (w.heap.size + 1) 28 #[.int .i64 0, .int .u32 0, .int .u32 0, .int .u32 0, .int .u32 0, .int .u32 0, .string ⟨#[]⟩, .string ⟨#[]⟩, .bool false, .slice none 0 0] by rw [hW3]; exact (Blk.at_ _ _ (by simp)).alloc _)
  have X3 := Lib.hid (show Blk W3 (w.heap.size + 1 + 1) 28 #[.int .i64 90, .int .u32 0, .int .u32 0, .int .u32 0, .int .u32 0, .int .u32 0, .string ⟨#[]⟩, .string ⟨#[]⟩, .bool false, .slice none 0 0] by rw [hW3]; exact (Blk.at_ _ _ (by simp)))
  have HW3 := Lib.hid hW3
  clear hW3
  go_enter Tryz.func9, Tryz.ntmps9
  go_upto_region 2 with fail
  rw [← HW3.out]
  have k0 : W3.cell? ⟨w.heap.size, 0, none⟩ = some (.int .i64 90) := by simpa using X1.out.cell 0
  obtain ⟨n3, hn3⟩ : ∃ n3, w.heap.size + 1 + 1 = n3 := ⟨_, rfl⟩
  have HN3 := Lib.hid hn3
  rw [hn3] at X3 ⊢
  clear HW3 hn3
  go_wp2
  have c6 := X1.out.cell 6
  have d6 := X3.out.cell 6
  have f6 := X3.out.frozen 6
  have c2 := X1.out.cell 2
  have d2 := X3.out.cell 2
  have f2 := X3.out.frozen 2
  have c3 := X1.out.cell 3
  have d3 := X3.out.cell 3
  have f3 := X3.out.frozen 3
  have c4 := X1.out.cell 4
  have d4 := X3.out.cell 4
  have f4 := X3.out.frozen 4
  have c9 := X1.out.cell 9
  have d9 := X3.out.cell 9
  have f9 := X3.out.frozen 9
  simp only [List.getElem?_toArray, List.getElem?_cons_succ, List.getElem?_cons_zero] at c6 d6 c2 d2 c3 d3 c4 d4 c9 d9
  refine wp_region_held_drew (S := fun w' => Mod (fun k => k = n3) W3 w') (by kernel_rfl) (Mod.of_ext (Ext.drew (Ext.refl _))) (fun hHeld => ?_)
  obtain ⟨D, hD⟩ : ∃ D, D = W3.drew := ⟨_, rfl⟩
  have ED : Ext W3 D := by rw [hD]; exact (Ext.refl _).drew
  rw [← hD] at hHeld ⊢
  clear hD
  have hl1 := X1.out.lt
  have hn1 : ¬ w.heap.size = n3 := by have := HN3.out; omega
  (refine wpAnyH_take (i := 0) (v := ?_) rfl (by kernel_rfl) (by kernel_rfl) (by kernel_rfl) (fun _ _ _ h => h) (Or.inl ⟨by rfl, ?_⟩) (by assumption) ?_; rotate_left; (focus (intro w' hSw; go_simp; try with_reducible rfl)); (try simp only [List.getElem_toArray]); (try simp only [List.getElem_cons_succ]); (try simp only [List.getElem_cons_zero]); (try simp only [Act.put]); (try simp only [List.setIfInBounds_toArray]); (try simp only [List.set_cons_succ]); (try simp only [List.set_cons_zero]))
  (refine wpAnyH_take (i := 1) (v := ?_) rfl (by kernel_rfl) (by kernel_rfl) (by kernel_rfl) (fun _ _ _ h => h) (Or.inl ⟨by rfl, ?_⟩) (by assumption) ?_; rotate_left; (focus (intro w' hSw; have kc := (hSw.cell w.heap.size 6 hl1 hn1).trans c6; go_simp; try with_reducible rfl)); (try simp only [List.getElem_toArray]); (try simp only [List.getElem_cons_succ]); (try simp only [List.getElem_cons_zero]); (try simp only [Act.put]); (try simp only [List.setIfInBounds_toArray]); (try simp only [List.set_cons_succ]); (try simp only [List.set_cons_zero]))
  (refine wpAnyH_take (i := 2) (v := ?_) rfl (by kernel_rfl) (by kernel_rfl) (by kernel_rfl) (fun _ _ _ h => h) (Or.inl ⟨by rfl, ?_⟩) (by assumption) ?_; rotate_left; (focus (intro w' hSw; go_simp; try with_reducible rfl)); (try simp only [List.getElem_toArray]); (try simp only [List.getElem_cons_succ]); (try simp only [List.getElem_cons_zero]); (try simp only [Act.put]); (try simp only [List.setIfInBounds_toArray]); (try simp only [List.set_cons_succ]); (try simp only [List.set_cons_zero]))
  (refine wpAnyH_take (i := 3) (v := ?_) rfl (by kernel_rfl) (by kernel_rfl) (by kernel_rfl) (fun _ _ _ h => h) (Or.inl ⟨by rfl, ?_⟩) (by assumption) ?_; rotate_left; (focus (intro w' hSw; have kc := (hSw.cell w.heap.size 2 hl1 hn1).trans c2; go_simp; try with_reducible rfl)); (try simp only [List.getElem_toArray]); (try simp only [List.getElem_cons_succ]); (try simp only [List.getElem_cons_zero]); (try simp only [Act.put]); (try simp only [List.setIfInBounds_toArray]); (try simp only [List.set_cons_succ]); (try simp only [List.set_cons_zero]))
  (refine wpAnyH_take (i := 4) (v := ?_) rfl (by kernel_rfl) (by kernel_rfl) (by kernel_rfl) (fun _ _ _ h => h) (Or.inl ⟨by rfl, ?_⟩) (by assumption) ?_; rotate_left; (focus (intro w' hSw; go_simp; try with_reducible rfl)); (try simp only [List.getElem_toArray]); (try simp only [List.getElem_cons_succ]); (try simp only [List.getElem_cons_zero]); (try simp only [Act.put]); (try simp only [List.setIfInBounds_toArray]); (try simp only [List.set_cons_succ]); (try simp only [List.set_cons_zero]))
  (refine wpAnyH_take (i := 5) (v := ?_) rfl (by kernel_rfl) (by kernel_rfl) (by kernel_rfl) (fun _ _ _ h => h) (Or.inl ⟨by rfl, ?_⟩) (by assumption) ?_; rotate_left; (focus (intro w' hSw; have kc := (hSw.cell w.heap.size 3 hl1 hn1).trans c3; go_simp; try with_reducible rfl)); (try simp only [List.getElem_toArray]); (try simp only [List.getElem_cons_succ]); (try simp only [List.getElem_cons_zero]); (try simp only [Act.put]); (try simp only [List.setIfInBounds_toArray]); (try simp only [List.set_cons_succ]); (try simp only [List.set_cons_zero]))
  (refine wpAnyH_take (i := 6) (v := ?_) rfl (by kernel_rfl) (by kernel_rfl) (by kernel_rfl) (fun _ _ _ h => h) (Or.inl ⟨by rfl, ?_⟩) (by assumption) ?_; rotate_left; (focus (intro w' hSw; go_simp; try with_reducible rfl)); (try simp only [List.getElem_toArray]); (try simp only [List.getElem_cons_succ]); (try simp only [List.getElem_cons_zero]); (try simp only [Act.put]); (try simp only [List.setIfInBounds_toArray]); (try simp only [List.set_cons_succ]); (try simp only [List.set_cons_zero]))
  (refine wpAnyH_take (i := 7) (v := ?_) rfl (by kernel_rfl) (by kernel_rfl) (by kernel_rfl) (fun _ _ _ h => h) (Or.inl ⟨by rfl, ?_⟩) (by assumption) ?_; rotate_left; (focus (intro w' hSw; have kc := (hSw.cell w.heap.size 4 hl1 hn1).trans c4; go_simp; try with_reducible rfl)); (try simp only [List.getElem_toArray]); (try simp only [List.getElem_cons_succ]); (try simp only [List.getElem_cons_zero]); (try simp only [Act.put]); (try simp only [List.setIfInBounds_toArray]); (try simp only [List.set_cons_succ]); (try simp only [List.set_cons_zero]))
  (refine wpAnyH_take (i := 8) (v := ?_) rfl (by kernel_rfl) (by kernel_rfl) (by kernel_rfl) (fun _ _ _ h => h) (Or.inl ⟨by rfl, ?_⟩) (by assumption) ?_; rotate_left; (focus (intro w' hSw; go_simp; try with_reducible rfl)); (try simp only [List.getElem_toArray]); (try simp only [List.getElem_cons_succ]); (try simp only [List.getElem_cons_zero]); (try simp only [Act.put]); (try simp only [List.setIfInBounds_toArray]); (try simp only [List.set_cons_succ]); (try simp only [List.set_cons_zero]))
  (refine wpAnyH_take (i := 9) (v := ?_) rfl (by kernel_rfl) (by kernel_rfl) (by kernel_rfl) (fun _ _ _ h => h) (Or.inl ⟨by rfl, ?_⟩) (by assumption) ?_; rotate_left; (focus (intro w' hSw; have kc := (hSw.cell w.heap.size 9 hl1 hn1).trans c9; go_simp; try with_reducible rfl)); (try simp only [List.getElem_toArray]); (try simp only [List.getElem_cons_succ]); (try simp only [List.getElem_cons_zero]); (try simp only [Act.put]); (try simp only [List.setIfInBounds_toArray]); (try simp only [List.set_cons_succ]); (try simp only [List.set_cons_zero]))
  replace d6 := cell_ext ED d6
  replace f6 := (X3.out.ext ED).frozen 6
  replace d2 := cell_ext ED d2
  replace f2 := (X3.out.ext ED).frozen 2
  replace d3 := cell_ext ED d3
  replace f3 := (X3.out.ext ED).frozen 3
  replace d4 := cell_ext ED d4
  replace f4 := (X3.out.ext ED).frozen 4
  replace d9 := cell_ext ED d9
  replace f9 := (X3.out.ext ED).frozen 9
  (refine wpAnyH_take (i := 10) (v := ?_) rfl (by kernel_rfl) (by kernel_rfl) (by kernel_rfl) (fun _ _ _ h => h) (Or.inl ⟨by rfl, ?_⟩) (by assumption) ?_; rotate_left; (focus (intro w' hSw; go_simp; try with_reducible rfl)); (try simp only [List.getElem_toArray]); (try simp only [List.getElem_cons_succ]); (try simp only [List.getElem_cons_zero]); (try simp only [Act.put]); (try simp only [List.setIfInBounds_toArray]); (try simp only [List.set_cons_succ]); (try simp only [List.set_cons_zero]))
  (refine wpAnyH_ready (rs := [11]) (by kernel_rfl) (by simp) ?_; refine AllReadyH.cons rfl (fun K hK => ?_) AllReadyH.nil; go_simp; refine hK.out _ _ ((Mod.of_ext (S := fun k => k = n3) ED).set1 (o := 6) (.string nm)) (fun hHeld => ?_); clear hK K; (try simp only [Act.put]); (try simp only [List.getElem_toArray]); (try simp only [List.getElem_cons_succ]); (try simp only [List.getElem_cons_zero]); (try simp only [List.setIfInBounds_toArray]); (try simp only [List.set_cons_succ]); (try simp only [List.set_cons_zero]))
  (refine wpAnyH_take (i := 12) (v := ?_) rfl (by kernel_rfl) (by kernel_rfl) (by kernel_rfl) (fun _ _ _ h => h) (Or.inl ⟨by rfl, ?_⟩) (by assumption) ?_; rotate_left; (focus (intro w' hSw; go_simp; try with_reducible rfl)); (try simp only [List.getElem_toArray]); (try simp only [List.getElem_cons_succ]); (try simp only [List.getElem_cons_zero]); (try simp only [Act.put]); (try simp only [List.setIfInBounds_toArray]); (try simp only [List.set_cons_succ]); (try simp only [List.set_cons_zero]))
  (refine wpAnyH_ready (rs := [13]) (by kernel_rfl) (by simp) ?_; refine AllReadyH.cons rfl (fun K hK => ?_) AllReadyH.nil; go_simp; refine hK.out _ _ (((Mod.of_ext (S := fun k => k = n3) ED).set1 (o := 6) (.string nm)).set1 (o := 2) (.int .u32 se)) (fun hHeld => ?_); clear hK K; (try simp only [Act.put]); (try simp only [List.getElem_toArray]); (try simp only [List.getElem_cons_succ]); (try simp only [List.getElem_cons_zero]); (try simp only [List.setIfInBounds_toArray]); (try simp only [List.set_cons_succ]); (try simp only [List.set_cons_zero]))
  (refine wpAnyH_take (i := 14) (v := ?_) rfl (by kernel_rfl) (by kernel_rfl) (by kernel_rfl) (fun _ _ _ h => h) (Or.inl ⟨by rfl, ?_⟩) (by assumption) ?_; rotate_left; (focus (intro w' hSw; go_simp; try with_reducible rfl)); (try simp only [List.getElem_toArray]); (try simp only [List.getElem_cons_succ]); (try simp only [List.getElem_cons_zero]); (try simp only [Act.put]); (try simp only [List.setIfInBounds_toArray]); (try simp only [List.set_cons_succ]); (try simp only [List.set_cons_zero]))
  (refine wpAnyH_ready (rs := [15]) (by kernel_rfl) (by simp) ?_; refine AllReadyH.cons rfl (fun K hK => ?_) AllReadyH.nil; go_simp; refine hK.out _ _ ((((Mod.of_ext (S := fun k => k = n3) ED).set1 (o := 6) (.string nm)).set1 (o := 2) (.int .u32 se)).set1 (o := 3) (.int .u32 wi)) (fun hHeld => ?_); clear hK K; (try simp only [Act.put]); (try simp only [List.getElem_toArray]); (try simp only [List.getElem_cons_succ]); (try simp only [List.getElem_cons_zero]); (try simp only [List.setIfInBounds_toArray]); (try simp only [List.set_cons_succ]); (try simp only [List.set_cons_zero]))
  (refine wpAnyH_take (i := 16) (v := ?_) rfl (by kernel_rfl) (by kernel_rfl) (by kernel_rfl) (fun _ _ _ h => h) (Or.inl ⟨by rfl, ?_⟩) (by assumption) ?_; rotate_left; (focus (intro w' hSw; go_simp; try with_reducible rfl)); (try simp only [List.getElem_toArray]); (try simp only [List.getElem_cons_succ]); (try simp only [List.getElem_cons_zero]); (try simp only [Act.put]); (try simp only [List.setIfInBounds_toArray]); (try simp only [List.set_cons_succ]); (try simp only [List.set_cons_zero]))
  (refine wpAnyH_ready (rs := [17]) (by kernel_rfl) (by simp) ?_; refine AllReadyH.cons rfl (fun K hK => ?_) AllReadyH.nil; go_simp; refine hK.out _ _ (((((Mod.of_ext (S := fun k => k = n3) ED).set1 (o := 6) (.string nm)).set1 (o := 2) (.int .u32 se)).set1 (o := 3) (.int .u32 wi)).set1 (o := 4) (.int .u32 pk)) (fun hHeld => ?_); clear hK K; (try simp only [Act.put]); (try simp only [List.getElem_toArray]); (try simp only [List.getElem_cons_succ]); (try simp only [List.getElem_cons_zero]); (try simp only [List.setIfInBounds_toArray]); (try simp only [List.set_cons_succ]); (try simp only [List.set_cons_zero]))
  (refine wpAnyH_take (i := 18) (v := ?_) rfl (by kernel_rfl) (by kernel_rfl) (by kernel_rfl) (fun _ _ _ h => h) (Or.inl ⟨by rfl, ?_⟩) (by assumption) ?_; rotate_left; (focus (intro w' hSw; go_simp; try with_reducible rfl)); (try simp only [List.getElem_toArray]); (try simp only [List.getElem_cons_succ]); (try simp only [List.getElem_cons_zero]); (try simp only [Act.put]); (try simp only [List.setIfInBounds_toArray]); (try simp only [List.set_cons_succ]); (try simp only [List.set_cons_zero]))
  (refine wpAnyH_ready (rs := [19]) (by kernel_rfl) (by simp) ?_; refine AllReadyH.cons rfl (fun K hK => ?_) AllReadyH.nil; go_simp; refine hK.out _ _ ((((((Mod.of_ext (S := fun k => k = n3) ED).set1 (o := 6) (.string nm)).set1 (o := 2) (.int .u32 se)).set1 (o := 3) (.int .u32 wi)).set1 (o := 4) (.int .u32 pk)).set1 (o := 9) (.slice Av L cv)) (fun hHeld => ?_); clear hK K; (try simp only [Act.put]); (try simp only [List.getElem_toArray]); (try simp only [List.getElem_cons_succ]); (try simp only [List.getElem_cons_zero]); (try simp only [List.setIfInBounds_toArray]); (try simp only [List.set_cons_succ]); (try simp only [List.set_cons_zero]))
  refine wpAnyH_done (by kernel_rfl) ?_ _
  go_upto_region 28 with fail
  have B3 := Lib.hid (show Blk _ n3 28 #[.int .i64 90, .int .u32 0, .int .u32 se, .int .u32 wi, .int .u32 pk, .int .u32 0, .string nm, .string ⟨#[]⟩, .bool false, .slice Av L cv] by simpa using ((((((X3.out.ext ED)).set_ 6 (.string nm)).set_ 2 (.int .u32 se)).set_ 3 (.int .u32 wi)).set_ 4 (.int .u32 pk)).set_ 9 (.slice Av L cv))
  have M3 := Lib.hid ((((((Mod.of_ext (S := fun k => k = n3) ED).set1 (o := 6) (.string nm)).set1 (o := 2) (.int .u32 se)).set1 (o := 3) (.int .u32 wi)).set1 (o := 4) (.int .u32 pk)).set1 (o := 9) (.slice Av L cv))
  generalize (((((D.setCell ⟨n3, 6, none⟩ (.string nm)).setCell ⟨n3, 2, none⟩ (.int .u32 se)).setCell ⟨n3, 3, none⟩ (.int .u32 wi)).setCell ⟨n3, 4, none⟩ (.int .u32 pk)).setCell ⟨n3, 9, none⟩ (.slice Av L cv)) = W9 at *
  have Y2 := Lib.hid (X2.out.mod M3.out (by have := HN3.out; omega))
  go_wp2_with (first | (refine wpList_load_row rfl 28 _ rfl _ rfl 28 _ _ _ B3.out Tryz.underlying28 rfl hiM ?_) | (refine wpList_load_row rfl 28 _ rfl _ rfl 28 _ _ _ (Blk.drew B3.out) Tryz.underlying28 rfl hiM ?_) | (refine wpList_store_M rfl 28 _ _ rfl (w.heap.size + 1) _ rfl rfl 28 _ Y2.out hiM rfl (by simp [Value.oneCell']) ?_; intro w9 P9 M9) | (refine wpList_store_M rfl 28 _ _ rfl (w.heap.size + 1) _ rfl rfl 28 _ (Blk.drew Y2.out) hiM rfl (by simp [Value.oneCell']) ?_; intro w9 P9 M9))
  refine bodyPost_ret_by (results_cell_row Tryz.results9 _ _ (w.heap.size + 1) 28 _ _ _ rfl P9 Tryz.underlying28 rfl hiM) rfl ?_
  refine ⟨_, by rw [HOW.out], by rw [HOW.out]; exact .inr ⟨rfl, rfl⟩, ?_⟩
  have E9 := Mod.toExt E3 M3.out (fun k hk he => by have := HN3.out; omega)
  first | exact Mod.toExt E9 M9 (fun k hk he => by omega) | exact Mod.toExt E9.drew M9 (fun k hk he => by omega)
set_option maxHeartbeats 3000000 in
theorem mown_91 (ch se wi pk co : Int) (nm la : ByteArray) (wa : Bool) (da : List Int) (Av : Option Addr) (L cv : Nat) (w : World) : Calls Tryz.prog 9 #[.agg #[.int .i64 91, .int .u32 ch, .int .u32 se, .int .u32 wi, .int .u32 pk, .int .u32 co, .string nm, .string la, .bool wa, .slice Av L cv]] w (OwP ⟨91, ch, se, wi, pk, co, nm, la, wa, da⟩ (.slice Av L cv) w) := by
  have hiM : (Tryz.prog.info? 28).map (·.size) = some 10 := by kernel_rfl
  have HOW : Hid (ownM ⟨91, ch, se, wi, pk, co, nm, la, wa, da⟩ = ⟨91, ch, se, wi, pk, 0, ⟨#[]⟩, ⟨#[]⟩, false, da⟩) := Lib.hid (by simp [ownM, rowL, putAll, putM, vOf, mg0, paChan, paPacket, paRest, paSender, paWindow])
  obtain ⟨W3, hW3⟩ : ∃ W3, W3 = ((w.alloc (.cells #[.int .i64 91, .int .u32 ch, .int .u32 se, .int .u32 wi, .int .u32 pk, .int .u32 co, .string nm, .string la, .bool wa, .slice Av L cv] 28)).alloc (.cells #[.int .i64 0, .int .u32 0, .int .u32 0, .int .u32 0, .int .u32 0, .int .u32 0, .string ⟨#[]⟩, .string ⟨#[]⟩, .bool false, .slice none 0 0] 28)).alloc (.cells #[.int .i64 91, .int .u32 0, .int .u32 0, .int .u32 0, .int .u32 0, .int .u32 0, .string ⟨#[]⟩, .string ⟨#[]⟩, .bool false, .slice none 0 0] 28) := ⟨_, rfl⟩
  have E3 : Ext w W3 := by rw [hW3]; exact (((Ext.refl _).alloc _).alloc _).alloc _
  have X1 := Lib.hid (show Blk W3 w.heap.size 28 #[.int .i64 91, .int .u32 ch, .int .u32 se, .int .u32 wi, .int .u32 pk, .int .u32 co, .string nm, .string la, .bool wa, .slice Av L cv] by rw [hW3]; exact ((Blk.new w _ _).alloc _).alloc _)
  have X2 := Lib.hid (show Blk W3 (w.heap.size + 1) 28 #[.int .i64 0, .int .u32 0, .int .u32 0, .int .u32 0, .int .u32 0, .int .u32 0, .string ⟨#[]⟩, .string ⟨#[]⟩, .bool false, .slice none 0 0] by rw [hW3]; exact (Blk.at_ _ _ (by simp)).alloc _)
  have X3 := Lib.hid (show Blk W3 (w.heap.size + 1 + 1) 28 #[.int .i64 91, .int .u32 0, .int .u32 0, .int .u32 0, .int .u32 0, .int .u32 0, .string ⟨#[]⟩, .string ⟨#[]⟩, .bool false, .slice none 0 0] by rw [hW3]; exact (Blk.at_ _ _ (by simp)))
  have HW3 := Lib.hid hW3
  clear hW3
  go_enter Tryz.func9, Tryz.ntmps9
  go_upto_region 2 with fail
  rw [← HW3.out]
  have k0 : W3.cell? ⟨w.heap.size, 0, none⟩ = some (.int .i64 91) := by simpa using X1.out.cell 0
  obtain ⟨n3, hn3⟩ : ∃ n3, w.heap.size + 1 + 1 = n3 := ⟨_, rfl⟩
  have HN3 := Lib.hid hn3
  rw [hn3] at X3 ⊢
  clear HW3 hn3
  go_wp2
  have c1 := X1.out.cell 1
  have d1 := X3.out.cell 1
  have f1 := X3.out.frozen 1
  have c2 := X1.out.cell 2
  have d2 := X3.out.cell 2
  have f2 := X3.out.frozen 2
  have c3 := X1.out.cell 3
  have d3 := X3.out.cell 3
  have f3 := X3.out.frozen 3
  have c4 := X1.out.cell 4
  have d4 := X3.out.cell 4
  have f4 := X3.out.frozen 4
  have c9 := X1.out.cell 9
  have d9 := X3.out.cell 9
  have f9 := X3.out.frozen 9
  simp only [List.getElem?_toArray, List.getElem?_cons_succ, List.getElem?_cons_zero] at c1 d1 c2 d2 c3 d3 c4 d4 c9 d9
  refine wp_region_held_drew (S := fun w' => Mod (fun k => k = n3) W3 w') (by kernel_rfl) (Mod.of_ext (Ext.drew (Ext.refl _))) (fun hHeld => ?_)
  obtain ⟨D, hD⟩ : ∃ D, D = W3.drew := ⟨_, rfl⟩
  have ED : Ext W3 D := by rw [hD]; exact (Ext.refl _).drew
  rw [← hD] at hHeld ⊢
  clear hD
  have hl1 := X1.out.lt
  have hn1 : ¬ w.heap.size = n3 := by have := HN3.out; omega
  (refine wpAnyH_take (i := 0) (v := ?_) rfl (by kernel_rfl) (by kernel_rfl) (by kernel_rfl) (fun _ _ _ h => h) (Or.inl ⟨by rfl, ?_⟩) (by assumption) ?_; rotate_left; (focus (intro w' hSw; go_simp; try with_reducible rfl)); (try simp only [List.getElem_toArray]); (try simp only [List.getElem_cons_succ]); (try simp only [List.getElem_cons_zero]); (try simp only [Act.put]); (try simp only [List.setIfInBounds_toArray]); (try simp only [List.set_cons_succ]); (try simp only [List.set_cons_zero]))
  (refine wpAnyH_take (i := 1) (v := ?_) rfl (by kernel_rfl) (by kernel_rfl) (by kernel_rfl) (fun _ _ _ h => h) (Or.inl ⟨by rfl, ?_⟩) (by assumption) ?_; rotate_left; (focus (intro w' hSw; have kc := (hSw.cell w.heap.size 1 hl1 hn1).trans c1; go_simp; try with_reducible rfl)); (try simp only [List.getElem_toArray]); (try simp only [List.getElem_cons_succ]); (try simp only [List.getElem_cons_zero]); (try simp only [Act.put]); (try simp only [List.setIfInBounds_toArray]); (try simp only [List.set_cons_succ]); (try simp only [List.set_cons_zero]))
  (refine wpAnyH_take (i := 2) (v := ?_) rfl (by kernel_rfl) (by kernel_rfl) (by kernel_rfl) (fun _ _ _ h => h) (Or.inl ⟨by rfl, ?_⟩) (by assumption) ?_; rotate_left; (focus (intro w' hSw; go_simp; try with_reducible rfl)); (try simp only [List.getElem_toArray]); (try simp only [List.getElem_cons_succ]); (try simp only [List.getElem_cons_zero]); (try simp only [Act.put]); (try simp only [List.setIfInBounds_toArray]); (try simp only [List.set_cons_succ]); (try simp only [List.set_cons_zero]))
  (refine wpAnyH_take (i := 3) (v := ?_) rfl (by kernel_rfl) (by kernel_rfl) (by kernel_rfl) (fun _ _ _ h => h) (Or.inl ⟨by rfl, ?_⟩) (by assumption) ?_; rotate_left; (focus (intro w' hSw; have kc := (hSw.cell w.heap.size 2 hl1 hn1).trans c2; go_simp; try with_reducible rfl)); (try simp only [List.getElem_toArray]); (try simp only [List.getElem_cons_succ]); (try simp only [List.getElem_cons_zero]); (try simp only [Act.put]); (try simp only [List.setIfInBounds_toArray]); (try simp only [List.set_cons_succ]); (try simp only [List.set_cons_zero]))
  (refine wpAnyH_take (i := 4) (v := ?_) rfl (by kernel_rfl) (by kernel_rfl) (by kernel_rfl) (fun _ _ _ h => h) (Or.inl ⟨by rfl, ?_⟩) (by assumption) ?_; rotate_left; (focus (intro w' hSw; go_simp; try with_reducible rfl)); (try simp only [List.getElem_toArray]); (try simp only [List.getElem_cons_succ]); (try simp only [List.getElem_cons_zero]); (try simp only [Act.put]); (try simp only [List.setIfInBounds_toArray]); (try simp only [List.set_cons_succ]); (try simp only [List.set_cons_zero]))
  (refine wpAnyH_take (i := 5) (v := ?_) rfl (by kernel_rfl) (by kernel_rfl) (by kernel_rfl) (fun _ _ _ h => h) (Or.inl ⟨by rfl, ?_⟩) (by assumption) ?_; rotate_left; (focus (intro w' hSw; have kc := (hSw.cell w.heap.size 3 hl1 hn1).trans c3; go_simp; try with_reducible rfl)); (try simp only [List.getElem_toArray]); (try simp only [List.getElem_cons_succ]); (try simp only [List.getElem_cons_zero]); (try simp only [Act.put]); (try simp only [List.setIfInBounds_toArray]); (try simp only [List.set_cons_succ]); (try simp only [List.set_cons_zero]))
  (refine wpAnyH_take (i := 6) (v := ?_) rfl (by kernel_rfl) (by kernel_rfl) (by kernel_rfl) (fun _ _ _ h => h) (Or.inl ⟨by rfl, ?_⟩) (by assumption) ?_; rotate_left; (focus (intro w' hSw; go_simp; try with_reducible rfl)); (try simp only [List.getElem_toArray]); (try simp only [List.getElem_cons_succ]); (try simp only [List.getElem_cons_zero]); (try simp only [Act.put]); (try simp only [List.setIfInBounds_toArray]); (try simp only [List.set_cons_succ]); (try simp only [List.set_cons_zero]))
  (refine wpAnyH_take (i := 7) (v := ?_) rfl (by kernel_rfl) (by kernel_rfl) (by kernel_rfl) (fun _ _ _ h => h) (Or.inl ⟨by rfl, ?_⟩) (by assumption) ?_; rotate_left; (focus (intro w' hSw; have kc := (hSw.cell w.heap.size 4 hl1 hn1).trans c4; go_simp; try with_reducible rfl)); (try simp only [List.getElem_toArray]); (try simp only [List.getElem_cons_succ]); (try simp only [List.getElem_cons_zero]); (try simp only [Act.put]); (try simp only [List.setIfInBounds_toArray]); (try simp only [List.set_cons_succ]); (try simp only [List.set_cons_zero]))
  (refine wpAnyH_take (i := 8) (v := ?_) rfl (by kernel_rfl) (by kernel_rfl) (by kernel_rfl) (fun _ _ _ h => h) (Or.inl ⟨by rfl, ?_⟩) (by assumption) ?_; rotate_left; (focus (intro w' hSw; go_simp; try with_reducible rfl)); (try simp only [List.getElem_toArray]); (try simp only [List.getElem_cons_succ]); (try simp only [List.getElem_cons_zero]); (try simp only [Act.put]); (try simp only [List.setIfInBounds_toArray]); (try simp only [List.set_cons_succ]); (try simp only [List.set_cons_zero]))
  (refine wpAnyH_take (i := 9) (v := ?_) rfl (by kernel_rfl) (by kernel_rfl) (by kernel_rfl) (fun _ _ _ h => h) (Or.inl ⟨by rfl, ?_⟩) (by assumption) ?_; rotate_left; (focus (intro w' hSw; have kc := (hSw.cell w.heap.size 9 hl1 hn1).trans c9; go_simp; try with_reducible rfl)); (try simp only [List.getElem_toArray]); (try simp only [List.getElem_cons_succ]); (try simp only [List.getElem_cons_zero]); (try simp only [Act.put]); (try simp only [List.setIfInBounds_toArray]); (try simp only [List.set_cons_succ]); (try simp only [List.set_cons_zero]))
  replace d1 := cell_ext ED d1
  replace f1 := (X3.out.ext ED).frozen 1
  replace d2 := cell_ext ED d2
  replace f2 := (X3.out.ext ED).frozen 2
  replace d3 := cell_ext ED d3
  replace f3 := (X3.out.ext ED).frozen 3
  replace d4 := cell_ext ED d4
  replace f4 := (X3.out.ext ED).frozen 4
  replace d9 := cell_ext ED d9
  replace f9 := (X3.out.ext ED).frozen 9
  (refine wpAnyH_take (i := 10) (v := ?_) rfl (by kernel_rfl) (by kernel_rfl) (by kernel_rfl) (fun _ _ _ h => h) (Or.inl ⟨by rfl, ?_⟩) (by assumption) ?_; rotate_left; (focus (intro w' hSw; go_simp; try with_reducible rfl)); (try simp only [List.getElem_toArray]); (try simp only [List.getElem_cons_succ]); (try simp only [List.getElem_cons_zero]); (try simp only [Act.put]); (try simp only [List.setIfInBounds_toArray]); (try simp only [List.set_cons_succ]); (try simp only [List.set_cons_zero]))
  (refine wpAnyH_ready (rs := [11]) (by kernel_rfl) (by simp) ?_; refine AllReadyH.cons rfl (fun K hK => ?_) AllReadyH.nil; go_simp; refine hK.out _ _ ((Mod.of_ext (S := fun k => k = n3) ED).set1 (o := 1) (.int .u32 ch)) (fun hHeld => ?_); clear hK K; (try simp only [Act.put]); (try simp only [List.getElem_toArray]); (try simp only [List.getElem_cons_succ]); (try simp only [List.getElem_cons_zero]); (try simp only [List.setIfInBounds_toArray]); (try simp only [List.set_cons_succ]); (try simp only [List.set_cons_zero]))
  (refine wpAnyH_take (i := 12) (v := ?_) rfl (by kernel_rfl) (by kernel_rfl) (by kernel_rfl) (fun _ _ _ h => h) (Or.inl ⟨by rfl, ?_⟩) (by assumption) ?_; rotate_left; (focus (intro w' hSw; go_simp; try with_reducible rfl)); (try simp only [List.getElem_toArray]); (try simp only [List.getElem_cons_succ]); (try simp only [List.getElem_cons_zero]); (try simp only [Act.put]); (try simp only [List.setIfInBounds_toArray]); (try simp only [List.set_cons_succ]); (try simp only [List.set_cons_zero]))
  (refine wpAnyH_ready (rs := [13]) (by kernel_rfl) (by simp) ?_; refine AllReadyH.cons rfl (fun K hK => ?_) AllReadyH.nil; go_simp; refine hK.out _ _ (((Mod.of_ext (S := fun k => k = n3) ED).set1 (o := 1) (.int .u32 ch)).set1 (o := 2) (.int .u32 se)) (fun hHeld => ?_); clear hK K; (try simp only [Act.put]); (try simp only [List.getElem_toArray]); (try simp only [List.getElem_cons_succ]); (try simp only [List.getElem_cons_zero]); (try simp only [List.setIfInBounds_toArray]); (try simp only [List.set_cons_succ]); (try simp only [List.set_cons_zero]))
  (refine wpAnyH_take (i := 14) (v := ?_) rfl (by kernel_rfl) (by kernel_rfl) (by kernel_rfl) (fun _ _ _ h => h) (Or.inl ⟨by rfl, ?_⟩) (by assumption) ?_; rotate_left; (focus (intro w' hSw; go_simp; try with_reducible rfl)); (try simp only [List.getElem_toArray]); (try simp only [List.getElem_cons_succ]); (try simp only [List.getElem_cons_zero]); (try simp only [Act.put]); (try simp only [List.setIfInBounds_toArray]); (try simp only [List.set_cons_succ]); (try simp only [List.set_cons_zero]))
  (refine wpAnyH_ready (rs := [15]) (by kernel_rfl) (by simp) ?_; refine AllReadyH.cons rfl (fun K hK => ?_) AllReadyH.nil; go_simp; refine hK.out _ _ ((((Mod.of_ext (S := fun k => k = n3) ED).set1 (o := 1) (.int .u32 ch)).set1 (o := 2) (.int .u32 se)).set1 (o := 3) (.int .u32 wi)) (fun hHeld => ?_); clear hK K; (try simp only [Act.put]); (try simp only [List.getElem_toArray]); (try simp only [List.getElem_cons_succ]); (try simp only [List.getElem_cons_zero]); (try simp only [List.setIfInBounds_toArray]); (try simp only [List.set_cons_succ]); (try simp only [List.set_cons_zero]))
  (refine wpAnyH_take (i := 16) (v := ?_) rfl (by kernel_rfl) (by kernel_rfl) (by kernel_rfl) (fun _ _ _ h => h) (Or.inl ⟨by rfl, ?_⟩) (by assumption) ?_; rotate_left; (focus (intro w' hSw; go_simp; try with_reducible rfl)); (try simp only [List.getElem_toArray]); (try simp only [List.getElem_cons_succ]); (try simp only [List.getElem_cons_zero]); (try simp only [Act.put]); (try simp only [List.setIfInBounds_toArray]); (try simp only [List.set_cons_succ]); (try simp only [List.set_cons_zero]))
  (refine wpAnyH_ready (rs := [17]) (by kernel_rfl) (by simp) ?_; refine AllReadyH.cons rfl (fun K hK => ?_) AllReadyH.nil; go_simp; refine hK.out _ _ (((((Mod.of_ext (S := fun k => k = n3) ED).set1 (o := 1) (.int .u32 ch)).set1 (o := 2) (.int .u32 se)).set1 (o := 3) (.int .u32 wi)).set1 (o := 4) (.int .u32 pk)) (fun hHeld => ?_); clear hK K; (try simp only [Act.put]); (try simp only [List.getElem_toArray]); (try simp only [List.getElem_cons_succ]); (try simp only [List.getElem_cons_zero]); (try simp only [List.setIfInBounds_toArray]); (try simp only [List.set_cons_succ]); (try simp only [List.set_cons_zero]))
  (refine wpAnyH_take (i := 18) (v := ?_) rfl (by kernel_rfl) (by kernel_rfl) (by kernel_rfl) (fun _ _ _ h => h) (Or.inl ⟨by rfl, ?_⟩) (by assumption) ?_; rotate_left; (focus (intro w' hSw; go_simp; try with_reducible rfl)); (try simp only [List.getElem_toArray]); (try simp only [List.getElem_cons_succ]); (try simp only [List.getElem_cons_zero]); (try simp only [Act.put]); (try simp only [List.setIfInBounds_toArray]); (try simp only [List.set_cons_succ]); (try simp only [List.set_cons_zero]))
  (refine wpAnyH_ready (rs := [19]) (by kernel_rfl) (by simp) ?_; refine AllReadyH.cons rfl (fun K hK => ?_) AllReadyH.nil; go_simp; refine hK.out _ _ ((((((Mod.of_ext (S := fun k => k = n3) ED).set1 (o := 1) (.int .u32 ch)).set1 (o := 2) (.int .u32 se)).set1 (o := 3) (.int .u32 wi)).set1 (o := 4) (.int .u32 pk)).set1 (o := 9) (.slice Av L cv)) (fun hHeld => ?_); clear hK K; (try simp only [Act.put]); (try simp only [List.getElem_toArray]); (try simp only [List.getElem_cons_succ]); (try simp only [List.getElem_cons_zero]); (try simp only [List.setIfInBounds_toArray]); (try simp only [List.set_cons_succ]); (try simp only [List.set_cons_zero]))
  refine wpAnyH_done (by kernel_rfl) ?_ _
  go_upto_region 28 with fail
  have B3 := Lib.hid (show Blk _ n3 28 #[.int .i64 91, .int .u32 ch, .int .u32 se, .int .u32 wi, .int .u32 pk, .int .u32 0, .string ⟨#[]⟩, .string ⟨#[]⟩, .bool false, .slice Av L cv] by simpa using ((((((X3.out.ext ED)).set_ 1 (.int .u32 ch)).set_ 2 (.int .u32 se)).set_ 3 (.int .u32 wi)).set_ 4 (.int .u32 pk)).set_ 9 (.slice Av L cv))
  have M3 := Lib.hid ((((((Mod.of_ext (S := fun k => k = n3) ED).set1 (o := 1) (.int .u32 ch)).set1 (o := 2) (.int .u32 se)).set1 (o := 3) (.int .u32 wi)).set1 (o := 4) (.int .u32 pk)).set1 (o := 9) (.slice Av L cv))
  generalize (((((D.setCell ⟨n3, 1, none⟩ (.int .u32 ch)).setCell ⟨n3, 2, none⟩ (.int .u32 se)).setCell ⟨n3, 3, none⟩ (.int .u32 wi)).setCell ⟨n3, 4, none⟩ (.int .u32 pk)).setCell ⟨n3, 9, none⟩ (.slice Av L cv)) = W9 at *
  have Y2 := Lib.hid (X2.out.mod M3.out (by have := HN3.out; omega))
  go_wp2_with (first | (refine wpList_load_row rfl 28 _ rfl _ rfl 28 _ _ _ B3.out Tryz.underlying28 rfl hiM ?_) | (refine wpList_load_row rfl 28 _ rfl _ rfl 28 _ _ _ (Blk.drew B3.out) Tryz.underlying28 rfl hiM ?_) | (refine wpList_store_M rfl 28 _ _ rfl (w.heap.size + 1) _ rfl rfl 28 _ Y2.out hiM rfl (by simp [Value.oneCell']) ?_; intro w9 P9 M9) | (refine wpList_store_M rfl 28 _ _ rfl (w.heap.size + 1) _ rfl rfl 28 _ (Blk.drew Y2.out) hiM rfl (by simp [Value.oneCell']) ?_; intro w9 P9 M9))
  refine bodyPost_ret_by (results_cell_row Tryz.results9 _ _ (w.heap.size + 1) 28 _ _ _ rfl P9 Tryz.underlying28 rfl hiM) rfl ?_
  refine ⟨_, by rw [HOW.out], by rw [HOW.out]; exact .inr ⟨rfl, rfl⟩, ?_⟩
  have E9 := Mod.toExt E3 M3.out (fun k hk he => by have := HN3.out; omega)
  first | exact Mod.toExt E9 M9 (fun k hk he => by omega) | exact Mod.toExt E9.drew M9 (fun k hk he => by omega)
set_option maxHeartbeats 3000000 in
theorem mown_92 (ch se wi pk co : Int) (nm la : ByteArray) (wa : Bool) (da : List Int) (Av : Option Addr) (L cv : Nat) (w : World) : Calls Tryz.prog 9 #[.agg #[.int .i64 92, .int .u32 ch, .int .u32 se, .int .u32 wi, .int .u32 pk, .int .u32 co, .string nm, .string la, .bool wa, .slice Av L cv]] w (OwP ⟨92, ch, se, wi, pk, co, nm, la, wa, da⟩ (.slice Av L cv) w) := by
  have hiM : (Tryz.prog.info? 28).map (·.size) = some 10 := by kernel_rfl
  have HOW : Hid (ownM ⟨92, ch, se, wi, pk, co, nm, la, wa, da⟩ = ⟨92, ch, 0, 0, 0, co, ⟨#[]⟩, la, false, da⟩) := Lib.hid (by simp [ownM, rowL, putAll, putM, vOf, mg0, paChan, paCode, paLang, paWords, str_back])
  obtain ⟨W3, hW3⟩ : ∃ W3, W3 = ((w.alloc (.cells #[.int .i64 92, .int .u32 ch, .int .u32 se, .int .u32 wi, .int .u32 pk, .int .u32 co, .string nm, .string la, .bool wa, .slice Av L cv] 28)).alloc (.cells #[.int .i64 0, .int .u32 0, .int .u32 0, .int .u32 0, .int .u32 0, .int .u32 0, .string ⟨#[]⟩, .string ⟨#[]⟩, .bool false, .slice none 0 0] 28)).alloc (.cells #[.int .i64 92, .int .u32 0, .int .u32 0, .int .u32 0, .int .u32 0, .int .u32 0, .string ⟨#[]⟩, .string ⟨#[]⟩, .bool false, .slice none 0 0] 28) := ⟨_, rfl⟩
  have E3 : Ext w W3 := by rw [hW3]; exact (((Ext.refl _).alloc _).alloc _).alloc _
  have X1 := Lib.hid (show Blk W3 w.heap.size 28 #[.int .i64 92, .int .u32 ch, .int .u32 se, .int .u32 wi, .int .u32 pk, .int .u32 co, .string nm, .string la, .bool wa, .slice Av L cv] by rw [hW3]; exact ((Blk.new w _ _).alloc _).alloc _)
  have X2 := Lib.hid (show Blk W3 (w.heap.size + 1) 28 #[.int .i64 0, .int .u32 0, .int .u32 0, .int .u32 0, .int .u32 0, .int .u32 0, .string ⟨#[]⟩, .string ⟨#[]⟩, .bool false, .slice none 0 0] by rw [hW3]; exact (Blk.at_ _ _ (by simp)).alloc _)
  have X3 := Lib.hid (show Blk W3 (w.heap.size + 1 + 1) 28 #[.int .i64 92, .int .u32 0, .int .u32 0, .int .u32 0, .int .u32 0, .int .u32 0, .string ⟨#[]⟩, .string ⟨#[]⟩, .bool false, .slice none 0 0] by rw [hW3]; exact (Blk.at_ _ _ (by simp)))
  have HW3 := Lib.hid hW3
  clear hW3
  go_enter Tryz.func9, Tryz.ntmps9
  go_upto_region 2 with fail
  rw [← HW3.out]
  have k0 : W3.cell? ⟨w.heap.size, 0, none⟩ = some (.int .i64 92) := by simpa using X1.out.cell 0
  obtain ⟨n3, hn3⟩ : ∃ n3, w.heap.size + 1 + 1 = n3 := ⟨_, rfl⟩
  have HN3 := Lib.hid hn3
  rw [hn3] at X3 ⊢
  clear HW3 hn3
  go_wp2
  have c1 := X1.out.cell 1
  have d1 := X3.out.cell 1
  have f1 := X3.out.frozen 1
  have c5 := X1.out.cell 5
  have d5 := X3.out.cell 5
  have f5 := X3.out.frozen 5
  have c9 := X1.out.cell 9
  have d9 := X3.out.cell 9
  have f9 := X3.out.frozen 9
  have c7 := X1.out.cell 7
  have d7 := X3.out.cell 7
  have f7 := X3.out.frozen 7
  simp only [List.getElem?_toArray, List.getElem?_cons_succ, List.getElem?_cons_zero] at c1 d1 c5 d5 c9 d9 c7 d7
  refine wp_region_held_drew (S := fun w' => Mod (fun k => k = n3) W3 w') (by kernel_rfl) (Mod.of_ext (Ext.drew (Ext.refl _))) (fun hHeld => ?_)
  obtain ⟨D, hD⟩ : ∃ D, D = W3.drew := ⟨_, rfl⟩
  have ED : Ext W3 D := by rw [hD]; exact (Ext.refl _).drew
  rw [← hD] at hHeld ⊢
  clear hD
  have hl1 := X1.out.lt
  have hn1 : ¬ w.heap.size = n3 := by have := HN3.out; omega
  (refine wpAnyH_take (i := 0) (v := ?_) rfl (by kernel_rfl) (by kernel_rfl) (by kernel_rfl) (fun _ _ _ h => h) (Or.inl ⟨by rfl, ?_⟩) (by assumption) ?_; rotate_left; (focus (intro w' hSw; go_simp; try with_reducible rfl)); (try simp only [List.getElem_toArray]); (try simp only [List.getElem_cons_succ]); (try simp only [List.getElem_cons_zero]); (try simp only [Act.put]); (try simp only [List.setIfInBounds_toArray]); (try simp only [List.set_cons_succ]); (try simp only [List.set_cons_zero]))
  (refine wpAnyH_take (i := 1) (v := ?_) rfl (by kernel_rfl) (by kernel_rfl) (by kernel_rfl) (fun _ _ _ h => h) (Or.inl ⟨by rfl, ?_⟩) (by assumption) ?_; rotate_left; (focus (intro w' hSw; have kc := (hSw.cell w.heap.size 1 hl1 hn1).trans c1; go_simp; try with_reducible rfl)); (try simp only [List.getElem_toArray]); (try simp only [List.getElem_cons_succ]); (try simp only [List.getElem_cons_zero]); (try simp only [Act.put]); (try simp only [List.setIfInBounds_toArray]); (try simp only [List.set_cons_succ]); (try simp only [List.set_cons_zero]))
  (refine wpAnyH_take (i := 2) (v := ?_) rfl (by kernel_rfl) (by kernel_rfl) (by kernel_rfl) (fun _ _ _ h => h) (Or.inl ⟨by rfl, ?_⟩) (by assumption) ?_; rotate_left; (focus (intro w' hSw; go_simp; try with_reducible rfl)); (try simp only [List.getElem_toArray]); (try simp only [List.getElem_cons_succ]); (try simp only [List.getElem_cons_zero]); (try simp only [Act.put]); (try simp only [List.setIfInBounds_toArray]); (try simp only [List.set_cons_succ]); (try simp only [List.set_cons_zero]))
  (refine wpAnyH_take (i := 3) (v := ?_) rfl (by kernel_rfl) (by kernel_rfl) (by kernel_rfl) (fun _ _ _ h => h) (Or.inl ⟨by rfl, ?_⟩) (by assumption) ?_; rotate_left; (focus (intro w' hSw; have kc := (hSw.cell w.heap.size 5 hl1 hn1).trans c5; go_simp; try with_reducible rfl)); (try simp only [List.getElem_toArray]); (try simp only [List.getElem_cons_succ]); (try simp only [List.getElem_cons_zero]); (try simp only [Act.put]); (try simp only [List.setIfInBounds_toArray]); (try simp only [List.set_cons_succ]); (try simp only [List.set_cons_zero]))
  (refine wpAnyH_take (i := 4) (v := ?_) rfl (by kernel_rfl) (by kernel_rfl) (by kernel_rfl) (fun _ _ _ h => h) (Or.inl ⟨by rfl, ?_⟩) (by assumption) ?_; rotate_left; (focus (intro w' hSw; go_simp; try with_reducible rfl)); (try simp only [List.getElem_toArray]); (try simp only [List.getElem_cons_succ]); (try simp only [List.getElem_cons_zero]); (try simp only [Act.put]); (try simp only [List.setIfInBounds_toArray]); (try simp only [List.set_cons_succ]); (try simp only [List.set_cons_zero]))
  (refine wpAnyH_take (i := 5) (v := ?_) rfl (by kernel_rfl) (by kernel_rfl) (by kernel_rfl) (fun _ _ _ h => h) (Or.inl ⟨by rfl, ?_⟩) (by assumption) ?_; rotate_left; (focus (intro w' hSw; have kc := (hSw.cell w.heap.size 9 hl1 hn1).trans c9; go_simp; try with_reducible rfl)); (try simp only [List.getElem_toArray]); (try simp only [List.getElem_cons_succ]); (try simp only [List.getElem_cons_zero]); (try simp only [Act.put]); (try simp only [List.setIfInBounds_toArray]); (try simp only [List.set_cons_succ]); (try simp only [List.set_cons_zero]))
  (refine wpAnyH_take (i := 6) (v := ?_) rfl (by kernel_rfl) (by kernel_rfl) (by kernel_rfl) (fun _ _ _ h => h) (Or.inl ⟨by rfl, ?_⟩) (by assumption) ?_; rotate_left; (focus (intro w' hSw; go_simp; try with_reducible rfl)); (try simp only [List.getElem_toArray]); (try simp only [List.getElem_cons_succ]); (try simp only [List.getElem_cons_zero]); (try simp only [Act.put]); (try simp only [List.setIfInBounds_toArray]); (try simp only [List.set_cons_succ]); (try simp only [List.set_cons_zero]))
  (refine wpAnyH_take (i := 7) (v := ?_) rfl (by kernel_rfl) (by kernel_rfl) (by kernel_rfl) (fun _ _ _ h => h) (Or.inl ⟨by rfl, ?_⟩) (by assumption) ?_; rotate_left; (focus (intro w' hSw; have kc := (hSw.cell w.heap.size 7 hl1 hn1).trans c7; go_simp; try with_reducible rfl)); (try simp only [List.getElem_toArray]); (try simp only [List.getElem_cons_succ]); (try simp only [List.getElem_cons_zero]); (try simp only [Act.put]); (try simp only [List.setIfInBounds_toArray]); (try simp only [List.set_cons_succ]); (try simp only [List.set_cons_zero]))
  replace d1 := cell_ext ED d1
  replace f1 := (X3.out.ext ED).frozen 1
  replace d5 := cell_ext ED d5
  replace f5 := (X3.out.ext ED).frozen 5
  replace d9 := cell_ext ED d9
  replace f9 := (X3.out.ext ED).frozen 9
  replace d7 := cell_ext ED d7
  replace f7 := (X3.out.ext ED).frozen 7
  (refine wpAnyH_take (i := 8) (v := ?_) rfl (by kernel_rfl) (by kernel_rfl) (by kernel_rfl) (fun _ _ _ h => h) (Or.inl ⟨by rfl, ?_⟩) (by assumption) ?_; rotate_left; (focus (intro w' hSw; go_simp; try with_reducible rfl)); (try simp only [List.getElem_toArray]); (try simp only [List.getElem_cons_succ]); (try simp only [List.getElem_cons_zero]); (try simp only [Act.put]); (try simp only [List.setIfInBounds_toArray]); (try simp only [List.set_cons_succ]); (try simp only [List.set_cons_zero]))
  (refine wpAnyH_ready (rs := [9]) (by kernel_rfl) (by simp) ?_; refine AllReadyH.cons rfl (fun K hK => ?_) AllReadyH.nil; go_simp; refine hK.out _ _ ((Mod.of_ext (S := fun k => k = n3) ED).set1 (o := 1) (.int .u32 ch)) (fun hHeld => ?_); clear hK K; (try simp only [Act.put]); (try simp only [List.getElem_toArray]); (try simp only [List.getElem_cons_succ]); (try simp only [List.getElem_cons_zero]); (try simp only [List.setIfInBounds_toArray]); (try simp only [List.set_cons_succ]); (try simp only [List.set_cons_zero]))
  (refine wpAnyH_take (i := 10) (v := ?_) rfl (by kernel_rfl) (by kernel_rfl) (by kernel_rfl) (fun _ _ _ h => h) (Or.inl ⟨by rfl, ?_⟩) (by assumption) ?_; rotate_left; (focus (intro w' hSw; go_simp; try with_reducible rfl)); (try simp only [List.getElem_toArray]); (try simp only [List.getElem_cons_succ]); (try simp only [List.getElem_cons_zero]); (try simp only [Act.put]); (try simp only [List.setIfInBounds_toArray]); (try simp only [List.set_cons_succ]); (try simp only [List.set_cons_zero]))
  (refine wpAnyH_ready (rs := [11]) (by kernel_rfl) (by simp) ?_; refine AllReadyH.cons rfl (fun K hK => ?_) AllReadyH.nil; go_simp; refine hK.out _ _ (((Mod.of_ext (S := fun k => k = n3) ED).set1 (o := 1) (.int .u32 ch)).set1 (o := 5) (.int .u32 co)) (fun hHeld => ?_); clear hK K; (try simp only [Act.put]); (try simp only [List.getElem_toArray]); (try simp only [List.getElem_cons_succ]); (try simp only [List.getElem_cons_zero]); (try simp only [List.setIfInBounds_toArray]); (try simp only [List.set_cons_succ]); (try simp only [List.set_cons_zero]))
  (refine wpAnyH_take (i := 12) (v := ?_) rfl (by kernel_rfl) (by kernel_rfl) (by kernel_rfl) (fun _ _ _ h => h) (Or.inl ⟨by rfl, ?_⟩) (by assumption) ?_; rotate_left; (focus (intro w' hSw; go_simp; try with_reducible rfl)); (try simp only [List.getElem_toArray]); (try simp only [List.getElem_cons_succ]); (try simp only [List.getElem_cons_zero]); (try simp only [Act.put]); (try simp only [List.setIfInBounds_toArray]); (try simp only [List.set_cons_succ]); (try simp only [List.set_cons_zero]))
  (refine wpAnyH_ready (rs := [13]) (by kernel_rfl) (by simp) ?_; refine AllReadyH.cons rfl (fun K hK => ?_) AllReadyH.nil; go_simp; refine hK.out _ _ ((((Mod.of_ext (S := fun k => k = n3) ED).set1 (o := 1) (.int .u32 ch)).set1 (o := 5) (.int .u32 co)).set1 (o := 9) (.slice Av L cv)) (fun hHeld => ?_); clear hK K; (try simp only [Act.put]); (try simp only [List.getElem_toArray]); (try simp only [List.getElem_cons_succ]); (try simp only [List.getElem_cons_zero]); (try simp only [List.setIfInBounds_toArray]); (try simp only [List.set_cons_succ]); (try simp only [List.set_cons_zero]))
  (refine wpAnyH_take (i := 14) (v := ?_) rfl (by kernel_rfl) (by kernel_rfl) (by kernel_rfl) (fun _ _ _ h => h) (Or.inl ⟨by rfl, ?_⟩) (by assumption) ?_; rotate_left; (focus (intro w' hSw; go_simp; try with_reducible rfl)); (try simp only [List.getElem_toArray]); (try simp only [List.getElem_cons_succ]); (try simp only [List.getElem_cons_zero]); (try simp only [Act.put]); (try simp only [List.setIfInBounds_toArray]); (try simp only [List.set_cons_succ]); (try simp only [List.set_cons_zero]))
  (refine wpAnyH_ready (rs := [15]) (by kernel_rfl) (by simp) ?_; refine AllReadyH.cons rfl (fun K hK => ?_) AllReadyH.nil; go_simp; refine hK.out _ _ (((((Mod.of_ext (S := fun k => k = n3) ED).set1 (o := 1) (.int .u32 ch)).set1 (o := 5) (.int .u32 co)).set1 (o := 9) (.slice Av L cv)).set1 (o := 7) (.string la)) (fun hHeld => ?_); clear hK K; (try simp only [Act.put]); (try simp only [List.getElem_toArray]); (try simp only [List.getElem_cons_succ]); (try simp only [List.getElem_cons_zero]); (try simp only [List.setIfInBounds_toArray]); (try simp only [List.set_cons_succ]); (try simp only [List.set_cons_zero]))
  refine wpAnyH_done (by kernel_rfl) ?_ _
  go_upto_region 28 with fail
  have B3 := Lib.hid (show Blk _ n3 28 #[.int .i64 92, .int .u32 ch, .int .u32 0, .int .u32 0, .int .u32 0, .int .u32 co, .string ⟨#[]⟩, .string la, .bool false, .slice Av L cv] by simpa using (((((X3.out.ext ED)).set_ 1 (.int .u32 ch)).set_ 5 (.int .u32 co)).set_ 9 (.slice Av L cv)).set_ 7 (.string la))
  have M3 := Lib.hid (((((Mod.of_ext (S := fun k => k = n3) ED).set1 (o := 1) (.int .u32 ch)).set1 (o := 5) (.int .u32 co)).set1 (o := 9) (.slice Av L cv)).set1 (o := 7) (.string la))
  generalize ((((D.setCell ⟨n3, 1, none⟩ (.int .u32 ch)).setCell ⟨n3, 5, none⟩ (.int .u32 co)).setCell ⟨n3, 9, none⟩ (.slice Av L cv)).setCell ⟨n3, 7, none⟩ (.string la)) = W9 at *
  have Y2 := Lib.hid (X2.out.mod M3.out (by have := HN3.out; omega))
  go_wp2_with (first | (refine wpList_load_row rfl 28 _ rfl _ rfl 28 _ _ _ B3.out Tryz.underlying28 rfl hiM ?_) | (refine wpList_load_row rfl 28 _ rfl _ rfl 28 _ _ _ (Blk.drew B3.out) Tryz.underlying28 rfl hiM ?_) | (refine wpList_store_M rfl 28 _ _ rfl (w.heap.size + 1) _ rfl rfl 28 _ Y2.out hiM rfl (by simp [Value.oneCell']) ?_; intro w9 P9 M9) | (refine wpList_store_M rfl 28 _ _ rfl (w.heap.size + 1) _ rfl rfl 28 _ (Blk.drew Y2.out) hiM rfl (by simp [Value.oneCell']) ?_; intro w9 P9 M9))
  refine bodyPost_ret_by (results_cell_row Tryz.results9 _ _ (w.heap.size + 1) 28 _ _ _ rfl P9 Tryz.underlying28 rfl hiM) rfl ?_
  refine ⟨_, by rw [HOW.out], by rw [HOW.out]; exact .inr ⟨rfl, rfl⟩, ?_⟩
  have E9 := Mod.toExt E3 M3.out (fun k hk he => by have := HN3.out; omega)
  first | exact Mod.toExt E9 M9 (fun k hk he => by omega) | exact Mod.toExt E9.drew M9 (fun k hk he => by omega)
set_option maxHeartbeats 3000000 in
theorem mown_93 (ch se wi pk co : Int) (nm la : ByteArray) (wa : Bool) (da : List Int) (Av : Option Addr) (L cv : Nat) (w : World) : Calls Tryz.prog 9 #[.agg #[.int .i64 93, .int .u32 ch, .int .u32 se, .int .u32 wi, .int .u32 pk, .int .u32 co, .string nm, .string la, .bool wa, .slice Av L cv]] w (OwP ⟨93, ch, se, wi, pk, co, nm, la, wa, da⟩ (.slice Av L cv) w) := by
  have hiM : (Tryz.prog.info? 28).map (·.size) = some 10 := by kernel_rfl
  have HOW : Hid (ownM ⟨93, ch, se, wi, pk, co, nm, la, wa, da⟩ = ⟨93, ch, 0, wi, 0, 0, ⟨#[]⟩, ⟨#[]⟩, false, []⟩) := Lib.hid (by simp [ownM, rowL, putAll, putM, vOf, mg0, paChan, paWindow])
  obtain ⟨W3, hW3⟩ : ∃ W3, W3 = ((w.alloc (.cells #[.int .i64 93, .int .u32 ch, .int .u32 se, .int .u32 wi, .int .u32 pk, .int .u32 co, .string nm, .string la, .bool wa, .slice Av L cv] 28)).alloc (.cells #[.int .i64 0, .int .u32 0, .int .u32 0, .int .u32 0, .int .u32 0, .int .u32 0, .string ⟨#[]⟩, .string ⟨#[]⟩, .bool false, .slice none 0 0] 28)).alloc (.cells #[.int .i64 93, .int .u32 0, .int .u32 0, .int .u32 0, .int .u32 0, .int .u32 0, .string ⟨#[]⟩, .string ⟨#[]⟩, .bool false, .slice none 0 0] 28) := ⟨_, rfl⟩
  have E3 : Ext w W3 := by rw [hW3]; exact (((Ext.refl _).alloc _).alloc _).alloc _
  have X1 := Lib.hid (show Blk W3 w.heap.size 28 #[.int .i64 93, .int .u32 ch, .int .u32 se, .int .u32 wi, .int .u32 pk, .int .u32 co, .string nm, .string la, .bool wa, .slice Av L cv] by rw [hW3]; exact ((Blk.new w _ _).alloc _).alloc _)
  have X2 := Lib.hid (show Blk W3 (w.heap.size + 1) 28 #[.int .i64 0, .int .u32 0, .int .u32 0, .int .u32 0, .int .u32 0, .int .u32 0, .string ⟨#[]⟩, .string ⟨#[]⟩, .bool false, .slice none 0 0] by rw [hW3]; exact (Blk.at_ _ _ (by simp)).alloc _)
  have X3 := Lib.hid (show Blk W3 (w.heap.size + 1 + 1) 28 #[.int .i64 93, .int .u32 0, .int .u32 0, .int .u32 0, .int .u32 0, .int .u32 0, .string ⟨#[]⟩, .string ⟨#[]⟩, .bool false, .slice none 0 0] by rw [hW3]; exact (Blk.at_ _ _ (by simp)))
  have HW3 := Lib.hid hW3
  clear hW3
  go_enter Tryz.func9, Tryz.ntmps9
  go_upto_region 2 with fail
  rw [← HW3.out]
  have k0 : W3.cell? ⟨w.heap.size, 0, none⟩ = some (.int .i64 93) := by simpa using X1.out.cell 0
  obtain ⟨n3, hn3⟩ : ∃ n3, w.heap.size + 1 + 1 = n3 := ⟨_, rfl⟩
  have HN3 := Lib.hid hn3
  rw [hn3] at X3 ⊢
  clear HW3 hn3
  go_wp2
  have c1 := X1.out.cell 1
  have d1 := X3.out.cell 1
  have f1 := X3.out.frozen 1
  have c3 := X1.out.cell 3
  have d3 := X3.out.cell 3
  have f3 := X3.out.frozen 3
  simp only [List.getElem?_toArray, List.getElem?_cons_succ, List.getElem?_cons_zero] at c1 d1 c3 d3
  go_region
  go_upto_region 28 with fail
  have B3 := Lib.hid (show Blk _ n3 28 #[.int .i64 93, .int .u32 ch, .int .u32 0, .int .u32 wi, .int .u32 0, .int .u32 0, .string ⟨#[]⟩, .string ⟨#[]⟩, .bool false, .slice none 0 0] by simpa using ((X3.out).set_ 1 (.int .u32 ch)).set_ 3 (.int .u32 wi))
  have M3 := Lib.hid (((Mod.refl (fun k => k = n3) W3).set1 (o := 1) (.int .u32 ch)).set1 (o := 3) (.int .u32 wi))
  generalize ((W3.setCell ⟨n3, 1, none⟩ (.int .u32 ch)).setCell ⟨n3, 3, none⟩ (.int .u32 wi)) = W9 at *
  have Y2 := Lib.hid (X2.out.mod M3.out (by have := HN3.out; omega))
  go_wp2_with (first | (refine wpList_load_row rfl 28 _ rfl _ rfl 28 _ _ _ B3.out Tryz.underlying28 rfl hiM ?_) | (refine wpList_load_row rfl 28 _ rfl _ rfl 28 _ _ _ (Blk.drew B3.out) Tryz.underlying28 rfl hiM ?_) | (refine wpList_store_M rfl 28 _ _ rfl (w.heap.size + 1) _ rfl rfl 28 _ Y2.out hiM rfl (by simp [Value.oneCell']) ?_; intro w9 P9 M9) | (refine wpList_store_M rfl 28 _ _ rfl (w.heap.size + 1) _ rfl rfl 28 _ (Blk.drew Y2.out) hiM rfl (by simp [Value.oneCell']) ?_; intro w9 P9 M9))
  refine bodyPost_ret_by (results_cell_row Tryz.results9 _ _ (w.heap.size + 1) 28 _ _ _ rfl P9 Tryz.underlying28 rfl hiM) rfl ?_
  refine ⟨_, by rw [HOW.out], by rw [HOW.out]; exact .inl ⟨rfl, rfl⟩, ?_⟩
  have E9 := Mod.toExt E3 M3.out (fun k hk he => by have := HN3.out; omega)
  first | exact Mod.toExt E9 M9 (fun k hk he => by omega) | exact Mod.toExt E9.drew M9 (fun k hk he => by omega)
set_option maxHeartbeats 3000000 in
theorem mown_94 (ch se wi pk co : Int) (nm la : ByteArray) (wa : Bool) (da : List Int) (Av : Option Addr) (L cv : Nat) (w : World) : Calls Tryz.prog 9 #[.agg #[.int .i64 94, .int .u32 ch, .int .u32 se, .int .u32 wi, .int .u32 pk, .int .u32 co, .string nm, .string la, .bool wa, .slice Av L cv]] w (OwP ⟨94, ch, se, wi, pk, co, nm, la, wa, da⟩ (.slice Av L cv) w) := by
  have hiM : (Tryz.prog.info? 28).map (·.size) = some 10 := by kernel_rfl
  have HOW : Hid (ownM ⟨94, ch, se, wi, pk, co, nm, la, wa, da⟩ = ⟨94, ch, 0, 0, 0, 0, ⟨#[]⟩, ⟨#[]⟩, false, da⟩) := Lib.hid (by simp [ownM, rowL, putAll, putM, vOf, mg0, paChan, paWords])
  obtain ⟨W3, hW3⟩ : ∃ W3, W3 = ((w.alloc (.cells #[.int .i64 94, .int .u32 ch, .int .u32 se, .int .u32 wi, .int .u32 pk, .int .u32 co, .string nm, .string la, .bool wa, .slice Av L cv] 28)).alloc (.cells #[.int .i64 0, .int .u32 0, .int .u32 0, .int .u32 0, .int .u32 0, .int .u32 0, .string ⟨#[]⟩, .string ⟨#[]⟩, .bool false, .slice none 0 0] 28)).alloc (.cells #[.int .i64 94, .int .u32 0, .int .u32 0, .int .u32 0, .int .u32 0, .int .u32 0, .string ⟨#[]⟩, .string ⟨#[]⟩, .bool false, .slice none 0 0] 28) := ⟨_, rfl⟩
  have E3 : Ext w W3 := by rw [hW3]; exact (((Ext.refl _).alloc _).alloc _).alloc _
  have X1 := Lib.hid (show Blk W3 w.heap.size 28 #[.int .i64 94, .int .u32 ch, .int .u32 se, .int .u32 wi, .int .u32 pk, .int .u32 co, .string nm, .string la, .bool wa, .slice Av L cv] by rw [hW3]; exact ((Blk.new w _ _).alloc _).alloc _)
  have X2 := Lib.hid (show Blk W3 (w.heap.size + 1) 28 #[.int .i64 0, .int .u32 0, .int .u32 0, .int .u32 0, .int .u32 0, .int .u32 0, .string ⟨#[]⟩, .string ⟨#[]⟩, .bool false, .slice none 0 0] by rw [hW3]; exact (Blk.at_ _ _ (by simp)).alloc _)
  have X3 := Lib.hid (show Blk W3 (w.heap.size + 1 + 1) 28 #[.int .i64 94, .int .u32 0, .int .u32 0, .int .u32 0, .int .u32 0, .int .u32 0, .string ⟨#[]⟩, .string ⟨#[]⟩, .bool false, .slice none 0 0] by rw [hW3]; exact (Blk.at_ _ _ (by simp)))
  have HW3 := Lib.hid hW3
  clear hW3
  go_enter Tryz.func9, Tryz.ntmps9
  go_upto_region 2 with fail
  rw [← HW3.out]
  have k0 : W3.cell? ⟨w.heap.size, 0, none⟩ = some (.int .i64 94) := by simpa using X1.out.cell 0
  obtain ⟨n3, hn3⟩ : ∃ n3, w.heap.size + 1 + 1 = n3 := ⟨_, rfl⟩
  have HN3 := Lib.hid hn3
  rw [hn3] at X3 ⊢
  clear HW3 hn3
  go_wp2
  have c1 := X1.out.cell 1
  have d1 := X3.out.cell 1
  have f1 := X3.out.frozen 1
  have c9 := X1.out.cell 9
  have d9 := X3.out.cell 9
  have f9 := X3.out.frozen 9
  simp only [List.getElem?_toArray, List.getElem?_cons_succ, List.getElem?_cons_zero] at c1 d1 c9 d9
  go_region
  go_upto_region 28 with fail
  have B3 := Lib.hid (show Blk _ n3 28 #[.int .i64 94, .int .u32 ch, .int .u32 0, .int .u32 0, .int .u32 0, .int .u32 0, .string ⟨#[]⟩, .string ⟨#[]⟩, .bool false, .slice Av L cv] by simpa using ((X3.out).set_ 1 (.int .u32 ch)).set_ 9 (.slice Av L cv))
  have M3 := Lib.hid (((Mod.refl (fun k => k = n3) W3).set1 (o := 1) (.int .u32 ch)).set1 (o := 9) (.slice Av L cv))
  generalize ((W3.setCell ⟨n3, 1, none⟩ (.int .u32 ch)).setCell ⟨n3, 9, none⟩ (.slice Av L cv)) = W9 at *
  have Y2 := Lib.hid (X2.out.mod M3.out (by have := HN3.out; omega))
  go_wp2_with (first | (refine wpList_load_row rfl 28 _ rfl _ rfl 28 _ _ _ B3.out Tryz.underlying28 rfl hiM ?_) | (refine wpList_load_row rfl 28 _ rfl _ rfl 28 _ _ _ (Blk.drew B3.out) Tryz.underlying28 rfl hiM ?_) | (refine wpList_store_M rfl 28 _ _ rfl (w.heap.size + 1) _ rfl rfl 28 _ Y2.out hiM rfl (by simp [Value.oneCell']) ?_; intro w9 P9 M9) | (refine wpList_store_M rfl 28 _ _ rfl (w.heap.size + 1) _ rfl rfl 28 _ (Blk.drew Y2.out) hiM rfl (by simp [Value.oneCell']) ?_; intro w9 P9 M9))
  refine bodyPost_ret_by (results_cell_row Tryz.results9 _ _ (w.heap.size + 1) 28 _ _ _ rfl P9 Tryz.underlying28 rfl hiM) rfl ?_
  refine ⟨_, by rw [HOW.out], by rw [HOW.out]; exact .inr ⟨rfl, rfl⟩, ?_⟩
  have E9 := Mod.toExt E3 M3.out (fun k hk he => by have := HN3.out; omega)
  first | exact Mod.toExt E9 M9 (fun k hk he => by omega) | exact Mod.toExt E9.drew M9 (fun k hk he => by omega)
set_option maxHeartbeats 3000000 in
theorem mown_95 (ch se wi pk co : Int) (nm la : ByteArray) (wa : Bool) (da : List Int) (Av : Option Addr) (L cv : Nat) (w : World) : Calls Tryz.prog 9 #[.agg #[.int .i64 95, .int .u32 ch, .int .u32 se, .int .u32 wi, .int .u32 pk, .int .u32 co, .string nm, .string la, .bool wa, .slice Av L cv]] w (OwP ⟨95, ch, se, wi, pk, co, nm, la, wa, da⟩ (.slice Av L cv) w) := by
  have hiM : (Tryz.prog.info? 28).map (·.size) = some 10 := by kernel_rfl
  have HOW : Hid (ownM ⟨95, ch, se, wi, pk, co, nm, la, wa, da⟩ = ⟨95, ch, 0, 0, 0, co, ⟨#[]⟩, ⟨#[]⟩, false, da⟩) := Lib.hid (by simp [ownM, rowL, putAll, putM, vOf, mg0, paChan, paCode, paWords])
  obtain ⟨W3, hW3⟩ : ∃ W3, W3 = ((w.alloc (.cells #[.int .i64 95, .int .u32 ch, .int .u32 se, .int .u32 wi, .int .u32 pk, .int .u32 co, .string nm, .string la, .bool wa, .slice Av L cv] 28)).alloc (.cells #[.int .i64 0, .int .u32 0, .int .u32 0, .int .u32 0, .int .u32 0, .int .u32 0, .string ⟨#[]⟩, .string ⟨#[]⟩, .bool false, .slice none 0 0] 28)).alloc (.cells #[.int .i64 95, .int .u32 0, .int .u32 0, .int .u32 0, .int .u32 0, .int .u32 0, .string ⟨#[]⟩, .string ⟨#[]⟩, .bool false, .slice none 0 0] 28) := ⟨_, rfl⟩
  have E3 : Ext w W3 := by rw [hW3]; exact (((Ext.refl _).alloc _).alloc _).alloc _
  have X1 := Lib.hid (show Blk W3 w.heap.size 28 #[.int .i64 95, .int .u32 ch, .int .u32 se, .int .u32 wi, .int .u32 pk, .int .u32 co, .string nm, .string la, .bool wa, .slice Av L cv] by rw [hW3]; exact ((Blk.new w _ _).alloc _).alloc _)
  have X2 := Lib.hid (show Blk W3 (w.heap.size + 1) 28 #[.int .i64 0, .int .u32 0, .int .u32 0, .int .u32 0, .int .u32 0, .int .u32 0, .string ⟨#[]⟩, .string ⟨#[]⟩, .bool false, .slice none 0 0] by rw [hW3]; exact (Blk.at_ _ _ (by simp)).alloc _)
  have X3 := Lib.hid (show Blk W3 (w.heap.size + 1 + 1) 28 #[.int .i64 95, .int .u32 0, .int .u32 0, .int .u32 0, .int .u32 0, .int .u32 0, .string ⟨#[]⟩, .string ⟨#[]⟩, .bool false, .slice none 0 0] by rw [hW3]; exact (Blk.at_ _ _ (by simp)))
  have HW3 := Lib.hid hW3
  clear hW3
  go_enter Tryz.func9, Tryz.ntmps9
  go_upto_region 2 with fail
  rw [← HW3.out]
  have k0 : W3.cell? ⟨w.heap.size, 0, none⟩ = some (.int .i64 95) := by simpa using X1.out.cell 0
  obtain ⟨n3, hn3⟩ : ∃ n3, w.heap.size + 1 + 1 = n3 := ⟨_, rfl⟩
  have HN3 := Lib.hid hn3
  rw [hn3] at X3 ⊢
  clear HW3 hn3
  go_wp2
  have c1 := X1.out.cell 1
  have d1 := X3.out.cell 1
  have f1 := X3.out.frozen 1
  have c5 := X1.out.cell 5
  have d5 := X3.out.cell 5
  have f5 := X3.out.frozen 5
  have c9 := X1.out.cell 9
  have d9 := X3.out.cell 9
  have f9 := X3.out.frozen 9
  simp only [List.getElem?_toArray, List.getElem?_cons_succ, List.getElem?_cons_zero] at c1 d1 c5 d5 c9 d9
  go_region
  go_upto_region 28 with fail
  have B3 := Lib.hid (show Blk _ n3 28 #[.int .i64 95, .int .u32 ch, .int .u32 0, .int .u32 0, .int .u32 0, .int .u32 co, .string ⟨#[]⟩, .string ⟨#[]⟩, .bool false, .slice Av L cv] by simpa using (((X3.out).set_ 1 (.int .u32 ch)).set_ 5 (.int .u32 co)).set_ 9 (.slice Av L cv))
  have M3 := Lib.hid ((((Mod.refl (fun k => k = n3) W3).set1 (o := 1) (.int .u32 ch)).set1 (o := 5) (.int .u32 co)).set1 (o := 9) (.slice Av L cv))
  generalize (((W3.setCell ⟨n3, 1, none⟩ (.int .u32 ch)).setCell ⟨n3, 5, none⟩ (.int .u32 co)).setCell ⟨n3, 9, none⟩ (.slice Av L cv)) = W9 at *
  have Y2 := Lib.hid (X2.out.mod M3.out (by have := HN3.out; omega))
  go_wp2_with (first | (refine wpList_load_row rfl 28 _ rfl _ rfl 28 _ _ _ B3.out Tryz.underlying28 rfl hiM ?_) | (refine wpList_load_row rfl 28 _ rfl _ rfl 28 _ _ _ (Blk.drew B3.out) Tryz.underlying28 rfl hiM ?_) | (refine wpList_store_M rfl 28 _ _ rfl (w.heap.size + 1) _ rfl rfl 28 _ Y2.out hiM rfl (by simp [Value.oneCell']) ?_; intro w9 P9 M9) | (refine wpList_store_M rfl 28 _ _ rfl (w.heap.size + 1) _ rfl rfl 28 _ (Blk.drew Y2.out) hiM rfl (by simp [Value.oneCell']) ?_; intro w9 P9 M9))
  refine bodyPost_ret_by (results_cell_row Tryz.results9 _ _ (w.heap.size + 1) 28 _ _ _ rfl P9 Tryz.underlying28 rfl hiM) rfl ?_
  refine ⟨_, by rw [HOW.out], by rw [HOW.out]; exact .inr ⟨rfl, rfl⟩, ?_⟩
  have E9 := Mod.toExt E3 M3.out (fun k hk he => by have := HN3.out; omega)
  first | exact Mod.toExt E9 M9 (fun k hk he => by omega) | exact Mod.toExt E9.drew M9 (fun k hk he => by omega)
set_option maxHeartbeats 3000000 in
theorem mown_96 (ch se wi pk co : Int) (nm la : ByteArray) (wa : Bool) (da : List Int) (Av : Option Addr) (L cv : Nat) (w : World) : Calls Tryz.prog 9 #[.agg #[.int .i64 96, .int .u32 ch, .int .u32 se, .int .u32 wi, .int .u32 pk, .int .u32 co, .string nm, .string la, .bool wa, .slice Av L cv]] w (OwP ⟨96, ch, se, wi, pk, co, nm, la, wa, da⟩ (.slice Av L cv) w) := by
  have hiM : (Tryz.prog.info? 28).map (·.size) = some 10 := by kernel_rfl
  have HOW : Hid (ownM ⟨96, ch, se, wi, pk, co, nm, la, wa, da⟩ = ⟨96, ch, 0, 0, 0, 0, ⟨#[]⟩, ⟨#[]⟩, false, []⟩) := Lib.hid (by simp [ownM, rowL, putAll, putM, vOf, mg0, paChan])
  obtain ⟨W3, hW3⟩ : ∃ W3, W3 = ((w.alloc (.cells #[.int .i64 96, .int .u32 ch, .int .u32 se, .int .u32 wi, .int .u32 pk, .int .u32 co, .string nm, .string la, .bool wa, .slice Av L cv] 28)).alloc (.cells #[.int .i64 0, .int .u32 0, .int .u32 0, .int .u32 0, .int .u32 0, .int .u32 0, .string ⟨#[]⟩, .string ⟨#[]⟩, .bool false, .slice none 0 0] 28)).alloc (.cells #[.int .i64 96, .int .u32 0, .int .u32 0, .int .u32 0, .int .u32 0, .int .u32 0, .string ⟨#[]⟩, .string ⟨#[]⟩, .bool false, .slice none 0 0] 28) := ⟨_, rfl⟩
  have E3 : Ext w W3 := by rw [hW3]; exact (((Ext.refl _).alloc _).alloc _).alloc _
  have X1 := Lib.hid (show Blk W3 w.heap.size 28 #[.int .i64 96, .int .u32 ch, .int .u32 se, .int .u32 wi, .int .u32 pk, .int .u32 co, .string nm, .string la, .bool wa, .slice Av L cv] by rw [hW3]; exact ((Blk.new w _ _).alloc _).alloc _)
  have X2 := Lib.hid (show Blk W3 (w.heap.size + 1) 28 #[.int .i64 0, .int .u32 0, .int .u32 0, .int .u32 0, .int .u32 0, .int .u32 0, .string ⟨#[]⟩, .string ⟨#[]⟩, .bool false, .slice none 0 0] by rw [hW3]; exact (Blk.at_ _ _ (by simp)).alloc _)
  have X3 := Lib.hid (show Blk W3 (w.heap.size + 1 + 1) 28 #[.int .i64 96, .int .u32 0, .int .u32 0, .int .u32 0, .int .u32 0, .int .u32 0, .string ⟨#[]⟩, .string ⟨#[]⟩, .bool false, .slice none 0 0] by rw [hW3]; exact (Blk.at_ _ _ (by simp)))
  have HW3 := Lib.hid hW3
  clear hW3
  go_enter Tryz.func9, Tryz.ntmps9
  go_upto_region 2 with fail
  rw [← HW3.out]
  have k0 : W3.cell? ⟨w.heap.size, 0, none⟩ = some (.int .i64 96) := by simpa using X1.out.cell 0
  obtain ⟨n3, hn3⟩ : ∃ n3, w.heap.size + 1 + 1 = n3 := ⟨_, rfl⟩
  have HN3 := Lib.hid hn3
  rw [hn3] at X3 ⊢
  clear HW3 hn3
  have c1 := X1.out.cell 1
  have d1 := X3.out.cell 1
  have f1 := X3.out.frozen 1
  simp only [List.getElem?_toArray, List.getElem?_cons_succ, List.getElem?_cons_zero] at c1 d1
  go_upto_region 28 with fail
  have B3 := Lib.hid (show Blk _ n3 28 #[.int .i64 96, .int .u32 ch, .int .u32 0, .int .u32 0, .int .u32 0, .int .u32 0, .string ⟨#[]⟩, .string ⟨#[]⟩, .bool false, .slice none 0 0] by simpa using (X3.out).set_ 1 (.int .u32 ch))
  have M3 := Lib.hid ((Mod.refl (fun k => k = n3) W3).set1 (o := 1) (.int .u32 ch))
  generalize (W3.setCell ⟨n3, 1, none⟩ (.int .u32 ch)) = W9 at *
  have Y2 := Lib.hid (X2.out.mod M3.out (by have := HN3.out; omega))
  go_wp2_with (first | (refine wpList_load_row rfl 28 _ rfl _ rfl 28 _ _ _ B3.out Tryz.underlying28 rfl hiM ?_) | (refine wpList_load_row rfl 28 _ rfl _ rfl 28 _ _ _ (Blk.drew B3.out) Tryz.underlying28 rfl hiM ?_) | (refine wpList_store_M rfl 28 _ _ rfl (w.heap.size + 1) _ rfl rfl 28 _ Y2.out hiM rfl (by simp [Value.oneCell']) ?_; intro w9 P9 M9) | (refine wpList_store_M rfl 28 _ _ rfl (w.heap.size + 1) _ rfl rfl 28 _ (Blk.drew Y2.out) hiM rfl (by simp [Value.oneCell']) ?_; intro w9 P9 M9))
  refine bodyPost_ret_by (results_cell_row Tryz.results9 _ _ (w.heap.size + 1) 28 _ _ _ rfl P9 Tryz.underlying28 rfl hiM) rfl ?_
  refine ⟨_, by rw [HOW.out], by rw [HOW.out]; exact .inl ⟨rfl, rfl⟩, ?_⟩
  have E9 := Mod.toExt E3 M3.out (fun k hk he => by have := HN3.out; omega)
  first | exact Mod.toExt E9 M9 (fun k hk he => by omega) | exact Mod.toExt E9.drew M9 (fun k hk he => by omega)
set_option maxHeartbeats 3000000 in
theorem mown_97 (ch se wi pk co : Int) (nm la : ByteArray) (wa : Bool) (da : List Int) (Av : Option Addr) (L cv : Nat) (w : World) : Calls Tryz.prog 9 #[.agg #[.int .i64 97, .int .u32 ch, .int .u32 se, .int .u32 wi, .int .u32 pk, .int .u32 co, .string nm, .string la, .bool wa, .slice Av L cv]] w (OwP ⟨97, ch, se, wi, pk, co, nm, la, wa, da⟩ (.slice Av L cv) w) := by
  have hiM : (Tryz.prog.info? 28).map (·.size) = some 10 := by kernel_rfl
  have HOW : Hid (ownM ⟨97, ch, se, wi, pk, co, nm, la, wa, da⟩ = ⟨97, ch, 0, 0, 0, 0, ⟨#[]⟩, ⟨#[]⟩, false, []⟩) := Lib.hid (by simp [ownM, rowL, putAll, putM, vOf, mg0, paChan])
  obtain ⟨W3, hW3⟩ : ∃ W3, W3 = ((w.alloc (.cells #[.int .i64 97, .int .u32 ch, .int .u32 se, .int .u32 wi, .int .u32 pk, .int .u32 co, .string nm, .string la, .bool wa, .slice Av L cv] 28)).alloc (.cells #[.int .i64 0, .int .u32 0, .int .u32 0, .int .u32 0, .int .u32 0, .int .u32 0, .string ⟨#[]⟩, .string ⟨#[]⟩, .bool false, .slice none 0 0] 28)).alloc (.cells #[.int .i64 97, .int .u32 0, .int .u32 0, .int .u32 0, .int .u32 0, .int .u32 0, .string ⟨#[]⟩, .string ⟨#[]⟩, .bool false, .slice none 0 0] 28) := ⟨_, rfl⟩
  have E3 : Ext w W3 := by rw [hW3]; exact (((Ext.refl _).alloc _).alloc _).alloc _
  have X1 := Lib.hid (show Blk W3 w.heap.size 28 #[.int .i64 97, .int .u32 ch, .int .u32 se, .int .u32 wi, .int .u32 pk, .int .u32 co, .string nm, .string la, .bool wa, .slice Av L cv] by rw [hW3]; exact ((Blk.new w _ _).alloc _).alloc _)
  have X2 := Lib.hid (show Blk W3 (w.heap.size + 1) 28 #[.int .i64 0, .int .u32 0, .int .u32 0, .int .u32 0, .int .u32 0, .int .u32 0, .string ⟨#[]⟩, .string ⟨#[]⟩, .bool false, .slice none 0 0] by rw [hW3]; exact (Blk.at_ _ _ (by simp)).alloc _)
  have X3 := Lib.hid (show Blk W3 (w.heap.size + 1 + 1) 28 #[.int .i64 97, .int .u32 0, .int .u32 0, .int .u32 0, .int .u32 0, .int .u32 0, .string ⟨#[]⟩, .string ⟨#[]⟩, .bool false, .slice none 0 0] by rw [hW3]; exact (Blk.at_ _ _ (by simp)))
  have HW3 := Lib.hid hW3
  clear hW3
  go_enter Tryz.func9, Tryz.ntmps9
  go_upto_region 2 with fail
  rw [← HW3.out]
  have k0 : W3.cell? ⟨w.heap.size, 0, none⟩ = some (.int .i64 97) := by simpa using X1.out.cell 0
  obtain ⟨n3, hn3⟩ : ∃ n3, w.heap.size + 1 + 1 = n3 := ⟨_, rfl⟩
  have HN3 := Lib.hid hn3
  rw [hn3] at X3 ⊢
  clear HW3 hn3
  have c1 := X1.out.cell 1
  have d1 := X3.out.cell 1
  have f1 := X3.out.frozen 1
  simp only [List.getElem?_toArray, List.getElem?_cons_succ, List.getElem?_cons_zero] at c1 d1
  go_upto_region 28 with fail
  have B3 := Lib.hid (show Blk _ n3 28 #[.int .i64 97, .int .u32 ch, .int .u32 0, .int .u32 0, .int .u32 0, .int .u32 0, .string ⟨#[]⟩, .string ⟨#[]⟩, .bool false, .slice none 0 0] by simpa using (X3.out).set_ 1 (.int .u32 ch))
  have M3 := Lib.hid ((Mod.refl (fun k => k = n3) W3).set1 (o := 1) (.int .u32 ch))
  generalize (W3.setCell ⟨n3, 1, none⟩ (.int .u32 ch)) = W9 at *
  have Y2 := Lib.hid (X2.out.mod M3.out (by have := HN3.out; omega))
  go_wp2_with (first | (refine wpList_load_row rfl 28 _ rfl _ rfl 28 _ _ _ B3.out Tryz.underlying28 rfl hiM ?_) | (refine wpList_load_row rfl 28 _ rfl _ rfl 28 _ _ _ (Blk.drew B3.out) Tryz.underlying28 rfl hiM ?_) | (refine wpList_store_M rfl 28 _ _ rfl (w.heap.size + 1) _ rfl rfl 28 _ Y2.out hiM rfl (by simp [Value.oneCell']) ?_; intro w9 P9 M9) | (refine wpList_store_M rfl 28 _ _ rfl (w.heap.size + 1) _ rfl rfl 28 _ (Blk.drew Y2.out) hiM rfl (by simp [Value.oneCell']) ?_; intro w9 P9 M9))
  refine bodyPost_ret_by (results_cell_row Tryz.results9 _ _ (w.heap.size + 1) 28 _ _ _ rfl P9 Tryz.underlying28 rfl hiM) rfl ?_
  refine ⟨_, by rw [HOW.out], by rw [HOW.out]; exact .inl ⟨rfl, rfl⟩, ?_⟩
  have E9 := Mod.toExt E3 M3.out (fun k hk he => by have := HN3.out; omega)
  first | exact Mod.toExt E9 M9 (fun k hk he => by omega) | exact Mod.toExt E9.drew M9 (fun k hk he => by omega)
set_option maxHeartbeats 3000000 in
theorem mown_98 (ch se wi pk co : Int) (nm la : ByteArray) (wa : Bool) (da : List Int) (Av : Option Addr) (L cv : Nat) (w : World) : Calls Tryz.prog 9 #[.agg #[.int .i64 98, .int .u32 ch, .int .u32 se, .int .u32 wi, .int .u32 pk, .int .u32 co, .string nm, .string la, .bool wa, .slice Av L cv]] w (OwP ⟨98, ch, se, wi, pk, co, nm, la, wa, da⟩ (.slice Av L cv) w) := by
  have hiM : (Tryz.prog.info? 28).map (·.size) = some 10 := by kernel_rfl
  have HOW : Hid (ownM ⟨98, ch, se, wi, pk, co, nm, la, wa, da⟩ = ⟨98, ch, 0, 0, 0, 0, nm, ⟨#[]⟩, wa, da⟩) := Lib.hid (by simp [ownM, rowL, putAll, putM, vOf, mg0, paChan, paName, paRest, paWant, str_back]; try (cases wa <;> rfl))
  obtain ⟨W3, hW3⟩ : ∃ W3, W3 = ((w.alloc (.cells #[.int .i64 98, .int .u32 ch, .int .u32 se, .int .u32 wi, .int .u32 pk, .int .u32 co, .string nm, .string la, .bool wa, .slice Av L cv] 28)).alloc (.cells #[.int .i64 0, .int .u32 0, .int .u32 0, .int .u32 0, .int .u32 0, .int .u32 0, .string ⟨#[]⟩, .string ⟨#[]⟩, .bool false, .slice none 0 0] 28)).alloc (.cells #[.int .i64 98, .int .u32 0, .int .u32 0, .int .u32 0, .int .u32 0, .int .u32 0, .string ⟨#[]⟩, .string ⟨#[]⟩, .bool false, .slice none 0 0] 28) := ⟨_, rfl⟩
  have E3 : Ext w W3 := by rw [hW3]; exact (((Ext.refl _).alloc _).alloc _).alloc _
  have X1 := Lib.hid (show Blk W3 w.heap.size 28 #[.int .i64 98, .int .u32 ch, .int .u32 se, .int .u32 wi, .int .u32 pk, .int .u32 co, .string nm, .string la, .bool wa, .slice Av L cv] by rw [hW3]; exact ((Blk.new w _ _).alloc _).alloc _)
  have X2 := Lib.hid (show Blk W3 (w.heap.size + 1) 28 #[.int .i64 0, .int .u32 0, .int .u32 0, .int .u32 0, .int .u32 0, .int .u32 0, .string ⟨#[]⟩, .string ⟨#[]⟩, .bool false, .slice none 0 0] by rw [hW3]; exact (Blk.at_ _ _ (by simp)).alloc _)
  have X3 := Lib.hid (show Blk W3 (w.heap.size + 1 + 1) 28 #[.int .i64 98, .int .u32 0, .int .u32 0, .int .u32 0, .int .u32 0, .int .u32 0, .string ⟨#[]⟩, .string ⟨#[]⟩, .bool false, .slice none 0 0] by rw [hW3]; exact (Blk.at_ _ _ (by simp)))
  have HW3 := Lib.hid hW3
  clear hW3
  go_enter Tryz.func9, Tryz.ntmps9
  go_upto_region 2 with fail
  rw [← HW3.out]
  have k0 : W3.cell? ⟨w.heap.size, 0, none⟩ = some (.int .i64 98) := by simpa using X1.out.cell 0
  obtain ⟨n3, hn3⟩ : ∃ n3, w.heap.size + 1 + 1 = n3 := ⟨_, rfl⟩
  have HN3 := Lib.hid hn3
  rw [hn3] at X3 ⊢
  clear HW3 hn3
  go_wp2
  have c1 := X1.out.cell 1
  have d1 := X3.out.cell 1
  have f1 := X3.out.frozen 1
  have c6 := X1.out.cell 6
  have d6 := X3.out.cell 6
  have f6 := X3.out.frozen 6
  have c8 := X1.out.cell 8
  have d8 := X3.out.cell 8
  have f8 := X3.out.frozen 8
  have c9 := X1.out.cell 9
  have d9 := X3.out.cell 9
  have f9 := X3.out.frozen 9
  simp only [List.getElem?_toArray, List.getElem?_cons_succ, List.getElem?_cons_zero] at c1 d1 c6 d6 c8 d8 c9 d9
  refine wp_region_held_drew (S := fun w' => Mod (fun k => k = n3) W3 w') (by kernel_rfl) (Mod.of_ext (Ext.drew (Ext.refl _))) (fun hHeld => ?_)
  obtain ⟨D, hD⟩ : ∃ D, D = W3.drew := ⟨_, rfl⟩
  have ED : Ext W3 D := by rw [hD]; exact (Ext.refl _).drew
  rw [← hD] at hHeld ⊢
  clear hD
  have hl1 := X1.out.lt
  have hn1 : ¬ w.heap.size = n3 := by have := HN3.out; omega
  (refine wpAnyH_take (i := 0) (v := ?_) rfl (by kernel_rfl) (by kernel_rfl) (by kernel_rfl) (fun _ _ _ h => h) (Or.inl ⟨by rfl, ?_⟩) (by assumption) ?_; rotate_left; (focus (intro w' hSw; go_simp; try with_reducible rfl)); (try simp only [List.getElem_toArray]); (try simp only [List.getElem_cons_succ]); (try simp only [List.getElem_cons_zero]); (try simp only [Act.put]); (try simp only [List.setIfInBounds_toArray]); (try simp only [List.set_cons_succ]); (try simp only [List.set_cons_zero]))
  (refine wpAnyH_take (i := 1) (v := ?_) rfl (by kernel_rfl) (by kernel_rfl) (by kernel_rfl) (fun _ _ _ h => h) (Or.inl ⟨by rfl, ?_⟩) (by assumption) ?_; rotate_left; (focus (intro w' hSw; have kc := (hSw.cell w.heap.size 1 hl1 hn1).trans c1; go_simp; try with_reducible rfl)); (try simp only [List.getElem_toArray]); (try simp only [List.getElem_cons_succ]); (try simp only [List.getElem_cons_zero]); (try simp only [Act.put]); (try simp only [List.setIfInBounds_toArray]); (try simp only [List.set_cons_succ]); (try simp only [List.set_cons_zero]))
  (refine wpAnyH_take (i := 2) (v := ?_) rfl (by kernel_rfl) (by kernel_rfl) (by kernel_rfl) (fun _ _ _ h => h) (Or.inl ⟨by rfl, ?_⟩) (by assumption) ?_; rotate_left; (focus (intro w' hSw; go_simp; try with_reducible rfl)); (try simp only [List.getElem_toArray]); (try simp only [List.getElem_cons_succ]); (try simp only [List.getElem_cons_zero]); (try simp only [Act.put]); (try simp only [List.setIfInBounds_toArray]); (try simp only [List.set_cons_succ]); (try simp only [List.set_cons_zero]))
  (refine wpAnyH_take (i := 3) (v := ?_) rfl (by kernel_rfl) (by kernel_rfl) (by kernel_rfl) (fun _ _ _ h => h) (Or.inl ⟨by rfl, ?_⟩) (by assumption) ?_; rotate_left; (focus (intro w' hSw; have kc := (hSw.cell w.heap.size 6 hl1 hn1).trans c6; go_simp; try with_reducible rfl)); (try simp only [List.getElem_toArray]); (try simp only [List.getElem_cons_succ]); (try simp only [List.getElem_cons_zero]); (try simp only [Act.put]); (try simp only [List.setIfInBounds_toArray]); (try simp only [List.set_cons_succ]); (try simp only [List.set_cons_zero]))
  (refine wpAnyH_take (i := 4) (v := ?_) rfl (by kernel_rfl) (by kernel_rfl) (by kernel_rfl) (fun _ _ _ h => h) (Or.inl ⟨by rfl, ?_⟩) (by assumption) ?_; rotate_left; (focus (intro w' hSw; go_simp; try with_reducible rfl)); (try simp only [List.getElem_toArray]); (try simp only [List.getElem_cons_succ]); (try simp only [List.getElem_cons_zero]); (try simp only [Act.put]); (try simp only [List.setIfInBounds_toArray]); (try simp only [List.set_cons_succ]); (try simp only [List.set_cons_zero]))
  (refine wpAnyH_take (i := 5) (v := ?_) rfl (by kernel_rfl) (by kernel_rfl) (by kernel_rfl) (fun _ _ _ h => h) (Or.inl ⟨by rfl, ?_⟩) (by assumption) ?_; rotate_left; (focus (intro w' hSw; have kc := (hSw.cell w.heap.size 8 hl1 hn1).trans c8; go_simp; try with_reducible rfl)); (try simp only [List.getElem_toArray]); (try simp only [List.getElem_cons_succ]); (try simp only [List.getElem_cons_zero]); (try simp only [Act.put]); (try simp only [List.setIfInBounds_toArray]); (try simp only [List.set_cons_succ]); (try simp only [List.set_cons_zero]))
  (refine wpAnyH_take (i := 6) (v := ?_) rfl (by kernel_rfl) (by kernel_rfl) (by kernel_rfl) (fun _ _ _ h => h) (Or.inl ⟨by rfl, ?_⟩) (by assumption) ?_; rotate_left; (focus (intro w' hSw; go_simp; try with_reducible rfl)); (try simp only [List.getElem_toArray]); (try simp only [List.getElem_cons_succ]); (try simp only [List.getElem_cons_zero]); (try simp only [Act.put]); (try simp only [List.setIfInBounds_toArray]); (try simp only [List.set_cons_succ]); (try simp only [List.set_cons_zero]))
  (refine wpAnyH_take (i := 7) (v := ?_) rfl (by kernel_rfl) (by kernel_rfl) (by kernel_rfl) (fun _ _ _ h => h) (Or.inl ⟨by rfl, ?_⟩) (by assumption) ?_; rotate_left; (focus (intro w' hSw; have kc := (hSw.cell w.heap.size 9 hl1 hn1).trans c9; go_simp; try with_reducible rfl)); (try simp only [List.getElem_toArray]); (try simp only [List.getElem_cons_succ]); (try simp only [List.getElem_cons_zero]); (try simp only [Act.put]); (try simp only [List.setIfInBounds_toArray]); (try simp only [List.set_cons_succ]); (try simp only [List.set_cons_zero]))
  replace d1 := cell_ext ED d1
  replace f1 := (X3.out.ext ED).frozen 1
  replace d6 := cell_ext ED d6
  replace f6 := (X3.out.ext ED).frozen 6
  replace d8 := cell_ext ED d8
  replace f8 := (X3.out.ext ED).frozen 8
  replace d9 := cell_ext ED d9
  replace f9 := (X3.out.ext ED).frozen 9
  (refine wpAnyH_take (i := 8) (v := ?_) rfl (by kernel_rfl) (by kernel_rfl) (by kernel_rfl) (fun _ _ _ h => h) (Or.inl ⟨by rfl, ?_⟩) (by assumption) ?_; rotate_left; (focus (intro w' hSw; go_simp; try with_reducible rfl)); (try simp only [List.getElem_toArray]); (try simp only [List.getElem_cons_succ]); (try simp only [List.getElem_cons_zero]); (try simp only [Act.put]); (try simp only [List.setIfInBounds_toArray]); (try simp only [List.set_cons_succ]); (try simp only [List.set_cons_zero]))
  (refine wpAnyH_ready (rs := [9]) (by kernel_rfl) (by simp) ?_; refine AllReadyH.cons rfl (fun K hK => ?_) AllReadyH.nil; go_simp; refine hK.out _ _ ((Mod.of_ext (S := fun k => k = n3) ED).set1 (o := 1) (.int .u32 ch)) (fun hHeld => ?_); clear hK K; (try simp only [Act.put]); (try simp only [List.getElem_toArray]); (try simp only [List.getElem_cons_succ]); (try simp only [List.getElem_cons_zero]); (try simp only [List.setIfInBounds_toArray]); (try simp only [List.set_cons_succ]); (try simp only [List.set_cons_zero]))
  (refine wpAnyH_take (i := 10) (v := ?_) rfl (by kernel_rfl) (by kernel_rfl) (by kernel_rfl) (fun _ _ _ h => h) (Or.inl ⟨by rfl, ?_⟩) (by assumption) ?_; rotate_left; (focus (intro w' hSw; go_simp; try with_reducible rfl)); (try simp only [List.getElem_toArray]); (try simp only [List.getElem_cons_succ]); (try simp only [List.getElem_cons_zero]); (try simp only [Act.put]); (try simp only [List.setIfInBounds_toArray]); (try simp only [List.set_cons_succ]); (try simp only [List.set_cons_zero]))
  (refine wpAnyH_ready (rs := [11]) (by kernel_rfl) (by simp) ?_; refine AllReadyH.cons rfl (fun K hK => ?_) AllReadyH.nil; go_simp; refine hK.out _ _ (((Mod.of_ext (S := fun k => k = n3) ED).set1 (o := 1) (.int .u32 ch)).set1 (o := 6) (.string nm)) (fun hHeld => ?_); clear hK K; (try simp only [Act.put]); (try simp only [List.getElem_toArray]); (try simp only [List.getElem_cons_succ]); (try simp only [List.getElem_cons_zero]); (try simp only [List.setIfInBounds_toArray]); (try simp only [List.set_cons_succ]); (try simp only [List.set_cons_zero]))
  (refine wpAnyH_take (i := 12) (v := ?_) rfl (by kernel_rfl) (by kernel_rfl) (by kernel_rfl) (fun _ _ _ h => h) (Or.inl ⟨by rfl, ?_⟩) (by assumption) ?_; rotate_left; (focus (intro w' hSw; go_simp; try with_reducible rfl)); (try simp only [List.getElem_toArray]); (try simp only [List.getElem_cons_succ]); (try simp only [List.getElem_cons_zero]); (try simp only [Act.put]); (try simp only [List.setIfInBounds_toArray]); (try simp only [List.set_cons_succ]); (try simp only [List.set_cons_zero]))
  (refine wpAnyH_ready (rs := [13]) (by kernel_rfl) (by simp) ?_; refine AllReadyH.cons rfl (fun K hK => ?_) AllReadyH.nil; go_simp; refine hK.out _ _ ((((Mod.of_ext (S := fun k => k = n3) ED).set1 (o := 1) (.int .u32 ch)).set1 (o := 6) (.string nm)).set1 (o := 8) (.bool wa)) (fun hHeld => ?_); clear hK K; (try simp only [Act.put]); (try simp only [List.getElem_toArray]); (try simp only [List.getElem_cons_succ]); (try simp only [List.getElem_cons_zero]); (try simp only [List.setIfInBounds_toArray]); (try simp only [List.set_cons_succ]); (try simp only [List.set_cons_zero]))
  (refine wpAnyH_take (i := 14) (v := ?_) rfl (by kernel_rfl) (by kernel_rfl) (by kernel_rfl) (fun _ _ _ h => h) (Or.inl ⟨by rfl, ?_⟩) (by assumption) ?_; rotate_left; (focus (intro w' hSw; go_simp; try with_reducible rfl)); (try simp only [List.getElem_toArray]); (try simp only [List.getElem_cons_succ]); (try simp only [List.getElem_cons_zero]); (try simp only [Act.put]); (try simp only [List.setIfInBounds_toArray]); (try simp only [List.set_cons_succ]); (try simp only [List.set_cons_zero]))
  (refine wpAnyH_ready (rs := [15]) (by kernel_rfl) (by simp) ?_; refine AllReadyH.cons rfl (fun K hK => ?_) AllReadyH.nil; go_simp; refine hK.out _ _ (((((Mod.of_ext (S := fun k => k = n3) ED).set1 (o := 1) (.int .u32 ch)).set1 (o := 6) (.string nm)).set1 (o := 8) (.bool wa)).set1 (o := 9) (.slice Av L cv)) (fun hHeld => ?_); clear hK K; (try simp only [Act.put]); (try simp only [List.getElem_toArray]); (try simp only [List.getElem_cons_succ]); (try simp only [List.getElem_cons_zero]); (try simp only [List.setIfInBounds_toArray]); (try simp only [List.set_cons_succ]); (try simp only [List.set_cons_zero]))
  refine wpAnyH_done (by kernel_rfl) ?_ _
  go_upto_region 28 with fail
  have B3 := Lib.hid (show Blk _ n3 28 #[.int .i64 98, .int .u32 ch, .int .u32 0, .int .u32 0, .int .u32 0, .int .u32 0, .string nm, .string ⟨#[]⟩, .bool wa, .slice Av L cv] by simpa using (((((X3.out.ext ED)).set_ 1 (.int .u32 ch)).set_ 6 (.string nm)).set_ 8 (.bool wa)).set_ 9 (.slice Av L cv))
  have M3 := Lib.hid (((((Mod.of_ext (S := fun k => k = n3) ED).set1 (o := 1) (.int .u32 ch)).set1 (o := 6) (.string nm)).set1 (o := 8) (.bool wa)).set1 (o := 9) (.slice Av L cv))
  generalize ((((D.setCell ⟨n3, 1, none⟩ (.int .u32 ch)).setCell ⟨n3, 6, none⟩ (.string nm)).setCell ⟨n3, 8, none⟩ (.bool wa)).setCell ⟨n3, 9, none⟩ (.slice Av L cv)) = W9 at *
  have Y2 := Lib.hid (X2.out.mod M3.out (by have := HN3.out; omega))
  go_wp2_with (first | (refine wpList_load_row rfl 28 _ rfl _ rfl 28 _ _ _ B3.out Tryz.underlying28 rfl hiM ?_) | (refine wpList_load_row rfl 28 _ rfl _ rfl 28 _ _ _ (Blk.drew B3.out) Tryz.underlying28 rfl hiM ?_) | (refine wpList_store_M rfl 28 _ _ rfl (w.heap.size + 1) _ rfl rfl 28 _ Y2.out hiM rfl (by simp [Value.oneCell']) ?_; intro w9 P9 M9) | (refine wpList_store_M rfl 28 _ _ rfl (w.heap.size + 1) _ rfl rfl 28 _ (Blk.drew Y2.out) hiM rfl (by simp [Value.oneCell']) ?_; intro w9 P9 M9))
  refine bodyPost_ret_by (results_cell_row Tryz.results9 _ _ (w.heap.size + 1) 28 _ _ _ rfl P9 Tryz.underlying28 rfl hiM) rfl ?_
  refine ⟨_, by rw [HOW.out], by rw [HOW.out]; exact .inr ⟨rfl, rfl⟩, ?_⟩
  have E9 := Mod.toExt E3 M3.out (fun k hk he => by have := HN3.out; omega)
  first | exact Mod.toExt E9 M9 (fun k hk he => by omega) | exact Mod.toExt E9.drew M9 (fun k hk he => by omega)
set_option maxHeartbeats 3000000 in
theorem mown_99 (ch se wi pk co : Int) (nm la : ByteArray) (wa : Bool) (da : List Int) (Av : Option Addr) (L cv : Nat) (w : World) : Calls Tryz.prog 9 #[.agg #[.int .i64 99, .int .u32 ch, .int .u32 se, .int .u32 wi, .int .u32 pk, .int .u32 co, .string nm, .string la, .bool wa, .slice Av L cv]] w (OwP ⟨99, ch, se, wi, pk, co, nm, la, wa, da⟩ (.slice Av L cv) w) := by
  have hiM : (Tryz.prog.info? 28).map (·.size) = some 10 := by kernel_rfl
  have HOW : Hid (ownM ⟨99, ch, se, wi, pk, co, nm, la, wa, da⟩ = ⟨99, ch, 0, 0, 0, 0, ⟨#[]⟩, ⟨#[]⟩, false, []⟩) := Lib.hid (by simp [ownM, rowL, putAll, putM, vOf, mg0, paChan])
  obtain ⟨W3, hW3⟩ : ∃ W3, W3 = ((w.alloc (.cells #[.int .i64 99, .int .u32 ch, .int .u32 se, .int .u32 wi, .int .u32 pk, .int .u32 co, .string nm, .string la, .bool wa, .slice Av L cv] 28)).alloc (.cells #[.int .i64 0, .int .u32 0, .int .u32 0, .int .u32 0, .int .u32 0, .int .u32 0, .string ⟨#[]⟩, .string ⟨#[]⟩, .bool false, .slice none 0 0] 28)).alloc (.cells #[.int .i64 99, .int .u32 0, .int .u32 0, .int .u32 0, .int .u32 0, .int .u32 0, .string ⟨#[]⟩, .string ⟨#[]⟩, .bool false, .slice none 0 0] 28) := ⟨_, rfl⟩
  have E3 : Ext w W3 := by rw [hW3]; exact (((Ext.refl _).alloc _).alloc _).alloc _
  have X1 := Lib.hid (show Blk W3 w.heap.size 28 #[.int .i64 99, .int .u32 ch, .int .u32 se, .int .u32 wi, .int .u32 pk, .int .u32 co, .string nm, .string la, .bool wa, .slice Av L cv] by rw [hW3]; exact ((Blk.new w _ _).alloc _).alloc _)
  have X2 := Lib.hid (show Blk W3 (w.heap.size + 1) 28 #[.int .i64 0, .int .u32 0, .int .u32 0, .int .u32 0, .int .u32 0, .int .u32 0, .string ⟨#[]⟩, .string ⟨#[]⟩, .bool false, .slice none 0 0] by rw [hW3]; exact (Blk.at_ _ _ (by simp)).alloc _)
  have X3 := Lib.hid (show Blk W3 (w.heap.size + 1 + 1) 28 #[.int .i64 99, .int .u32 0, .int .u32 0, .int .u32 0, .int .u32 0, .int .u32 0, .string ⟨#[]⟩, .string ⟨#[]⟩, .bool false, .slice none 0 0] by rw [hW3]; exact (Blk.at_ _ _ (by simp)))
  have HW3 := Lib.hid hW3
  clear hW3
  go_enter Tryz.func9, Tryz.ntmps9
  go_upto_region 2 with fail
  rw [← HW3.out]
  have k0 : W3.cell? ⟨w.heap.size, 0, none⟩ = some (.int .i64 99) := by simpa using X1.out.cell 0
  obtain ⟨n3, hn3⟩ : ∃ n3, w.heap.size + 1 + 1 = n3 := ⟨_, rfl⟩
  have HN3 := Lib.hid hn3
  rw [hn3] at X3 ⊢
  clear HW3 hn3
  have c1 := X1.out.cell 1
  have d1 := X3.out.cell 1
  have f1 := X3.out.frozen 1
  simp only [List.getElem?_toArray, List.getElem?_cons_succ, List.getElem?_cons_zero] at c1 d1
  go_upto_region 28 with fail
  have B3 := Lib.hid (show Blk _ n3 28 #[.int .i64 99, .int .u32 ch, .int .u32 0, .int .u32 0, .int .u32 0, .int .u32 0, .string ⟨#[]⟩, .string ⟨#[]⟩, .bool false, .slice none 0 0] by simpa using (X3.out).set_ 1 (.int .u32 ch))
  have M3 := Lib.hid ((Mod.refl (fun k => k = n3) W3).set1 (o := 1) (.int .u32 ch))
  generalize (W3.setCell ⟨n3, 1, none⟩ (.int .u32 ch)) = W9 at *
  have Y2 := Lib.hid (X2.out.mod M3.out (by have := HN3.out; omega))
  go_wp2_with (first | (refine wpList_load_row rfl 28 _ rfl _ rfl 28 _ _ _ B3.out Tryz.underlying28 rfl hiM ?_) | (refine wpList_load_row rfl 28 _ rfl _ rfl 28 _ _ _ (Blk.drew B3.out) Tryz.underlying28 rfl hiM ?_) | (refine wpList_store_M rfl 28 _ _ rfl (w.heap.size + 1) _ rfl rfl 28 _ Y2.out hiM rfl (by simp [Value.oneCell']) ?_; intro w9 P9 M9) | (refine wpList_store_M rfl 28 _ _ rfl (w.heap.size + 1) _ rfl rfl 28 _ (Blk.drew Y2.out) hiM rfl (by simp [Value.oneCell']) ?_; intro w9 P9 M9))
  refine bodyPost_ret_by (results_cell_row Tryz.results9 _ _ (w.heap.size + 1) 28 _ _ _ rfl P9 Tryz.underlying28 rfl hiM) rfl ?_
  refine ⟨_, by rw [HOW.out], by rw [HOW.out]; exact .inl ⟨rfl, rfl⟩, ?_⟩
  have E9 := Mod.toExt E3 M3.out (fun k hk he => by have := HN3.out; omega)
  first | exact Mod.toExt E9 M9 (fun k hk he => by omega) | exact Mod.toExt E9.drew M9 (fun k hk he => by omega)
set_option maxHeartbeats 3000000 in
theorem mown_100 (ch se wi pk co : Int) (nm la : ByteArray) (wa : Bool) (da : List Int) (Av : Option Addr) (L cv : Nat) (w : World) : Calls Tryz.prog 9 #[.agg #[.int .i64 100, .int .u32 ch, .int .u32 se, .int .u32 wi, .int .u32 pk, .int .u32 co, .string nm, .string la, .bool wa, .slice Av L cv]] w (OwP ⟨100, ch, se, wi, pk, co, nm, la, wa, da⟩ (.slice Av L cv) w) := by
  have hiM : (Tryz.prog.info? 28).map (·.size) = some 10 := by kernel_rfl
  have HOW : Hid (ownM ⟨100, ch, se, wi, pk, co, nm, la, wa, da⟩ = ⟨100, ch, 0, 0, 0, 0, ⟨#[]⟩, ⟨#[]⟩, false, []⟩) := Lib.hid (by simp [ownM, rowL, putAll, putM, vOf, mg0, paChan])
  obtain ⟨W3, hW3⟩ : ∃ W3, W3 = ((w.alloc (.cells #[.int .i64 100, .int .u32 ch, .int .u32 se, .int .u32 wi, .int .u32 pk, .int .u32 co, .string nm, .string la, .bool wa, .slice Av L cv] 28)).alloc (.cells #[.int .i64 0, .int .u32 0, .int .u32 0, .int .u32 0, .int .u32 0, .int .u32 0, .string ⟨#[]⟩, .string ⟨#[]⟩, .bool false, .slice none 0 0] 28)).alloc (.cells #[.int .i64 100, .int .u32 0, .int .u32 0, .int .u32 0, .int .u32 0, .int .u32 0, .string ⟨#[]⟩, .string ⟨#[]⟩, .bool false, .slice none 0 0] 28) := ⟨_, rfl⟩
  have E3 : Ext w W3 := by rw [hW3]; exact (((Ext.refl _).alloc _).alloc _).alloc _
  have X1 := Lib.hid (show Blk W3 w.heap.size 28 #[.int .i64 100, .int .u32 ch, .int .u32 se, .int .u32 wi, .int .u32 pk, .int .u32 co, .string nm, .string la, .bool wa, .slice Av L cv] by rw [hW3]; exact ((Blk.new w _ _).alloc _).alloc _)
  have X2 := Lib.hid (show Blk W3 (w.heap.size + 1) 28 #[.int .i64 0, .int .u32 0, .int .u32 0, .int .u32 0, .int .u32 0, .int .u32 0, .string ⟨#[]⟩, .string ⟨#[]⟩, .bool false, .slice none 0 0] by rw [hW3]; exact (Blk.at_ _ _ (by simp)).alloc _)
  have X3 := Lib.hid (show Blk W3 (w.heap.size + 1 + 1) 28 #[.int .i64 100, .int .u32 0, .int .u32 0, .int .u32 0, .int .u32 0, .int .u32 0, .string ⟨#[]⟩, .string ⟨#[]⟩, .bool false, .slice none 0 0] by rw [hW3]; exact (Blk.at_ _ _ (by simp)))
  have HW3 := Lib.hid hW3
  clear hW3
  go_enter Tryz.func9, Tryz.ntmps9
  go_upto_region 2 with fail
  rw [← HW3.out]
  have k0 : W3.cell? ⟨w.heap.size, 0, none⟩ = some (.int .i64 100) := by simpa using X1.out.cell 0
  obtain ⟨n3, hn3⟩ : ∃ n3, w.heap.size + 1 + 1 = n3 := ⟨_, rfl⟩
  have HN3 := Lib.hid hn3
  rw [hn3] at X3 ⊢
  clear HW3 hn3
  have c1 := X1.out.cell 1
  have d1 := X3.out.cell 1
  have f1 := X3.out.frozen 1
  simp only [List.getElem?_toArray, List.getElem?_cons_succ, List.getElem?_cons_zero] at c1 d1
  go_upto_region 28 with fail
  have B3 := Lib.hid (show Blk _ n3 28 #[.int .i64 100, .int .u32 ch, .int .u32 0, .int .u32 0, .int .u32 0, .int .u32 0, .string ⟨#[]⟩, .string ⟨#[]⟩, .bool false, .slice none 0 0] by simpa using (X3.out).set_ 1 (.int .u32 ch))
  have M3 := Lib.hid ((Mod.refl (fun k => k = n3) W3).set1 (o := 1) (.int .u32 ch))
  generalize (W3.setCell ⟨n3, 1, none⟩ (.int .u32 ch)) = W9 at *
  have Y2 := Lib.hid (X2.out.mod M3.out (by have := HN3.out; omega))
  go_wp2_with (first | (refine wpList_load_row rfl 28 _ rfl _ rfl 28 _ _ _ B3.out Tryz.underlying28 rfl hiM ?_) | (refine wpList_load_row rfl 28 _ rfl _ rfl 28 _ _ _ (Blk.drew B3.out) Tryz.underlying28 rfl hiM ?_) | (refine wpList_store_M rfl 28 _ _ rfl (w.heap.size + 1) _ rfl rfl 28 _ Y2.out hiM rfl (by simp [Value.oneCell']) ?_; intro w9 P9 M9) | (refine wpList_store_M rfl 28 _ _ rfl (w.heap.size + 1) _ rfl rfl 28 _ (Blk.drew Y2.out) hiM rfl (by simp [Value.oneCell']) ?_; intro w9 P9 M9))
  refine bodyPost_ret_by (results_cell_row Tryz.results9 _ _ (w.heap.size + 1) 28 _ _ _ rfl P9 Tryz.underlying28 rfl hiM) rfl ?_
  refine ⟨_, by rw [HOW.out], by rw [HOW.out]; exact .inl ⟨rfl, rfl⟩, ?_⟩
  have E9 := Mod.toExt E3 M3.out (fun k hk he => by have := HN3.out; omega)
  first | exact Mod.toExt E9 M9 (fun k hk he => by omega) | exact Mod.toExt E9.drew M9 (fun k hk he => by omega)
set_option maxHeartbeats 3000000 in
theorem mown_none (k ch se wi pk co : Int) (nm la : ByteArray) (wa : Bool) (da : List Int) (Av : Option Addr) (L cv : Nat) (w : World) (h : ¬ KindOk k) : Calls Tryz.prog 9 #[.agg #[.int .i64 k, .int .u32 ch, .int .u32 se, .int .u32 wi, .int .u32 pk, .int .u32 co, .string nm, .string la, .bool wa, .slice Av L cv]] w (OwP ⟨k, ch, se, wi, pk, co, nm, la, wa, da⟩ (.slice Av L cv) w) := by
  have hiM : (Tryz.prog.info? 28).map (·.size) = some 10 := by kernel_rfl
  unfold KindOk at h
  simp only [not_or] at h
  obtain ⟨h1, h80, h81, h82, h90, h91, h92, h93, h94, h95, h96, h97, h98, h99, h100⟩ := h
  have HOW : Hid (ownM ⟨k, ch, se, wi, pk, co, nm, la, wa, da⟩ = ⟨k, 0, 0, 0, 0, 0, ⟨#[]⟩, ⟨#[]⟩, false, []⟩) := Lib.hid (by
    unfold ownM
    rw [show rowL (Mg.mk k ch se wi pk co nm la wa da).k = none by simp [rowL, h1, h80, h81, h82, h90, h91, h92, h93, h94, h95, h96, h97, h98, h99, h100]]
    rfl)
  have i1 : (k == 1) = false := by simpa using h1
  have i80 : (k == 80) = false := by simpa using h80
  have i81 : (k == 81) = false := by simpa using h81
  have i90 : (k == 90) = false := by simpa using h90
  have i91 : (k == 91) = false := by simpa using h91
  have i92 : (k == 92) = false := by simpa using h92
  have i93 : (k == 93) = false := by simpa using h93
  have i94 : (k == 94) = false := by simpa using h94
  have i95 : (k == 95) = false := by simpa using h95
  have i96 : (k == 96) = false := by simpa using h96
  have i97 : (k == 97) = false := by simpa using h97
  have i98 : (k == 98) = false := by simpa using h98
  have i99 : (k == 99) = false := by simpa using h99
  have i100 : (k == 100) = false := by simpa using h100
  obtain ⟨W3, hW3⟩ : ∃ W3, W3 = ((w.alloc (.cells #[.int .i64 k, .int .u32 ch, .int .u32 se, .int .u32 wi, .int .u32 pk, .int .u32 co, .string nm, .string la, .bool wa, .slice Av L cv] 28)).alloc (.cells #[.int .i64 0, .int .u32 0, .int .u32 0, .int .u32 0, .int .u32 0, .int .u32 0, .string ⟨#[]⟩, .string ⟨#[]⟩, .bool false, .slice none 0 0] 28)).alloc (.cells #[.int .i64 k, .int .u32 0, .int .u32 0, .int .u32 0, .int .u32 0, .int .u32 0, .string ⟨#[]⟩, .string ⟨#[]⟩, .bool false, .slice none 0 0] 28) := ⟨_, rfl⟩
  have E3 : Ext w W3 := by rw [hW3]; exact (((Ext.refl _).alloc _).alloc _).alloc _
  have X1 := Lib.hid (show Blk W3 w.heap.size 28 #[.int .i64 k, .int .u32 ch, .int .u32 se, .int .u32 wi, .int .u32 pk, .int .u32 co, .string nm, .string la, .bool wa, .slice Av L cv] by rw [hW3]; exact ((Blk.new w _ _).alloc _).alloc _)
  have X2 := Lib.hid (show Blk W3 (w.heap.size + 1) 28 #[.int .i64 0, .int .u32 0, .int .u32 0, .int .u32 0, .int .u32 0, .int .u32 0, .string ⟨#[]⟩, .string ⟨#[]⟩, .bool false, .slice none 0 0] by rw [hW3]; exact (Blk.at_ _ _ (by simp)).alloc _)
  have X3 := Lib.hid (show Blk W3 (w.heap.size + 1 + 1) 28 #[.int .i64 k, .int .u32 0, .int .u32 0, .int .u32 0, .int .u32 0, .int .u32 0, .string ⟨#[]⟩, .string ⟨#[]⟩, .bool false, .slice none 0 0] by rw [hW3]; exact (Blk.at_ _ _ (by simp)))
  have HW3 := Lib.hid hW3
  clear hW3
  go_enter Tryz.func9, Tryz.ntmps9
  go_upto_region 2 with fail
  rw [← HW3.out]
  have k0 : W3.cell? ⟨w.heap.size, 0, none⟩ = some (.int .i64 k) := by simpa using X1.out.cell 0
  obtain ⟨n3, hn3⟩ : ∃ n3, w.heap.size + 1 + 1 = n3 := ⟨_, rfl⟩
  have HN3 := Lib.hid hn3
  rw [hn3] at X3 ⊢
  clear HW3 hn3
  go_upto_region 28 with fail
  have B3 := Lib.hid (show Blk _ n3 28 #[.int .i64 k, .int .u32 0, .int .u32 0, .int .u32 0, .int .u32 0, .int .u32 0, .string ⟨#[]⟩, .string ⟨#[]⟩, .bool false, .slice none 0 0] by simpa using X3.out)
  have M3 := Lib.hid (Mod.refl (fun k => k = n3) W3)
  have Y2 := Lib.hid (X2.out.mod M3.out (by have := HN3.out; omega))
  go_wp2_with (first | (refine wpList_load_row rfl 28 _ rfl _ rfl 28 _ _ _ B3.out Tryz.underlying28 rfl hiM ?_) | (refine wpList_load_row rfl 28 _ rfl _ rfl 28 _ _ _ (Blk.drew B3.out) Tryz.underlying28 rfl hiM ?_) | (refine wpList_store_M rfl 28 _ _ rfl (w.heap.size + 1) _ rfl rfl 28 _ Y2.out hiM rfl (by simp [Value.oneCell']) ?_; intro w9 P9 M9) | (refine wpList_store_M rfl 28 _ _ rfl (w.heap.size + 1) _ rfl rfl 28 _ (Blk.drew Y2.out) hiM rfl (by simp [Value.oneCell']) ?_; intro w9 P9 M9))
  refine bodyPost_ret_by (results_cell_row Tryz.results9 _ _ (w.heap.size + 1) 28 _ _ _ rfl P9 Tryz.underlying28 rfl hiM) rfl ?_
  refine ⟨_, by rw [HOW.out], by rw [HOW.out]; exact .inl ⟨rfl, rfl⟩, ?_⟩
  have E9 := Mod.toExt E3 M3.out (fun k hk he => by have := HN3.out; omega)
  first | exact Mod.toExt E9 M9 (fun k hk he => by omega) | exact Mod.toExt E9.drew M9 (fun k hk he => by omega)
theorem mown_any (m : Mg) (v : Value) (w : World) (hv : ∃ A L c, v = .slice A L c) : Calls Tryz.prog 9 #[.agg (mgA m v)] w (OwP m v w) := by
  obtain ⟨Av, L, cv, rfl⟩ := hv
  obtain ⟨k, ch, se, wi, pk, co, nm, la, wa, da⟩ := m
  by_cases h : KindOk k
  · unfold KindOk at h
    rcases h with rfl | rfl | rfl | rfl | rfl | rfl | rfl | rfl | rfl | rfl | rfl | rfl | rfl | rfl | rfl
    · exact mown_1 ch se wi pk co nm la wa da Av L cv w
    · exact mown_80 ch se wi pk co nm la wa da Av L cv w
    · exact mown_81 ch se wi pk co nm la wa da Av L cv w
    · exact mown_82 ch se wi pk co nm la wa da Av L cv w
    · exact mown_90 ch se wi pk co nm la wa da Av L cv w
    · exact mown_91 ch se wi pk co nm la wa da Av L cv w
    · exact mown_92 ch se wi pk co nm la wa da Av L cv w
    · exact mown_93 ch se wi pk co nm la wa da Av L cv w
    · exact mown_94 ch se wi pk co nm la wa da Av L cv w
    · exact mown_95 ch se wi pk co nm la wa da Av L cv w
    · exact mown_96 ch se wi pk co nm la wa da Av L cv w
    · exact mown_97 ch se wi pk co nm la wa da Av L cv w
    · exact mown_98 ch se wi pk co nm la wa da Av L cv w
    · exact mown_99 ch se wi pk co nm la wa da Av L cv w
    · exact mown_100 ch se wi pk co nm la wa da Av L cv w
  · exact mown_none k ch se wi pk co nm la wa da Av L cv w h
end Go.Proofs.YtldijmappinngaaGreatDoor
