/- message: what gets its name and language, by contract. No condition. -/
import Derived.Test.YtldijmappinngaaGreatDoorOG04
import Derived.Laws.IdiomStrings
namespace Go.Proofs.YtldijmappinngaaGreatDoor
open Go.RowKit Go.Kb
set_option maxRecDepth 100000

theorem bsL_len (s : ByteArray) : (bsL s).length = s.size := by simp [bsL]
theorem txt_ri {w : World} {n : Nat} (s : ByteArray) (cap : Nat) (e : TypeId) (fr : Nat × Nat) (hn : w.heap.size = n) (h1 : s.size ≤ cap) (h2 : cap ≤ maxLen) : RI .u8 (w.alloc (.cells (bytesRow s cap) e fr)) (.slice (some ⟨n, 0, none⟩) s.size cap) (bsL s) := by
  subst hn
  refine ⟨by simp, _, cap, by rw [bsL_len], by rw [bsL_len]; exact h1, h2, .inr ⟨_, _, rfl, fun j u hu => ?_⟩⟩
  have h : (w.alloc (.cells (bytesRow s cap) e fr)).cell? ⟨w.heap.size, 0 + j, none⟩ = (bytesRow s cap)[0 + j]? := cell_of_row _ _ _ _ e fr (heap_alloc_new w _)
  rw [h, Nat.zero_add]
  simp only [bsL, List.map_map, List.getElem?_map] at hu
  cases hj : s.data.toList[j]? with
  | none => rw [hj] at hu; cases hu
  | some b =>
    rw [hj] at hu
    rw [Array.getElem?_toList] at hj
    obtain ⟨hlt, hb⟩ := Array.getElem?_eq_some_iff.1 hj
    rw [bytesRow_at s cap j hlt, hb]
    simpa using hu
theorem txt_rds {w : World} {n : Nat} (s : ByteArray) (cap : Nat) (e : TypeId) (fr : Nat × Nat) (hn : w.heap.size = n) (h1 : s.size ≤ cap) (h2 : cap ≤ maxLen) : RdS Ub8 (fun k => k = n) (w.alloc (.cells (bytesRow s cap) e fr)) (.slice (some ⟨n, 0, none⟩) s.size cap) (bsL s) :=
  ⟨RI.y (txt_ri s cap e fr hn h1 h2), fun _ k hk => by simp only [Value.ownBlock, Option.some.injEq] at hk; exact hk.symm⟩
theorem mod_setRow {w : World} {g : Nat} (cs : Array Value) : Mod (fun k => k = g) w (w.setRow g cs) := by
  have h := below_setRow (Below.refl 0 w) (Nat.zero_le g) cs
  exact ⟨h.os, h.tape, h.output, h.size, fun k _ hn => setRow_other w g k cs hn⟩
set_option maxHeartbeats 800000 in
theorem mgetName (g : Nat) (m : Mg) (v : Value) (A : Nat → Prop) (w : World) (h : Blk w g 67 (mgA m v)) (hs : m.nm.size ≤ 1000000) : Calls Tryz.prog 90 #[.pointer (some ⟨g, 0, none⟩)] w (GetP A 0 (bsL m.nm) w) := by
  have hi : (Tryz.prog.info? 59).map (·.size) = some 4 := by kernel_rfl
  have HCV : ∀ (b : ByteArray) w', (convert 9 25 (.string b)).run Tryz.prog w' = _ := fun b w' => run_bytes_of_string w' 9 25 5 b Tryz.underlying9 Tryz.underlying25 Tryz.underlying5
  have kc := (mgC (h.ext ((Ext.refl w).alloc (.cells #[.int .i64 0, .int .u32 0, .slice none 0 0, .slice none 0 0] 59)))).k6
  obtain ⟨s, hs9⟩ : ∃ s, m.nm = s := ⟨_, rfl⟩
  rw [hs9] at kc hs ⊢
  have B0 := Lib.hid (Blk.new w 59 #[.int .i64 0, .int .u32 0, .slice none 0 0, .slice none 0 0])
  clear h hs9
  go_enter Tryz.func90, Tryz.ntmps90
  go_wp2_with (refine wpList_store_row rfl 59 _ _ rfl w.heap.size _ rfl rfl 59 _ (B0.out.ext (by repeat (first | with_reducible exact Ext.refl _ | refine Ext.drewN ?_ _ | refine Ext.drew ?_ | refine Ext.alloc ?_ _ | assumption | (refine Below.trans ?_ (by assumption)) | (refine Ext.trans ?_ (by assumption)) | (refine Below.trans ?_ (Below.mono (by assumption) (by omega)))))) hi rfl (by simp [Value.oneCell']) ?_)
  refine bodyPost_ret_by (results_cell_row Tryz.results90 _ _ w.heap.size 59 _ _ _ rfl (Blk.setRow (B0.out.ext (by repeat (first | with_reducible exact Ext.refl _ | refine Ext.drewN ?_ _ | refine Ext.drew ?_ | refine Ext.alloc ?_ _ | assumption | (refine Below.trans ?_ (by assumption)) | (refine Ext.trans ?_ (by assumption)) | (refine Below.trans ?_ (Below.mono (by assumption) (by omega)))))) _) Tryz.underlying59 rfl hi) rfl ?_
  refine ⟨_, rfl, RdS.mono (RdS.mod (RdS.ext (txt_rds s _ _ _ (n := w.heap.size + 1) (by simp) (grownCap_ge _ _ _ _) (grownCap_le_maxLen _ _ _ _ (by simp [maxLen]; omega))) (Ext.drew (Ext.refl _))) (mod_setRow _) (fun k _ hk => by omega)) (fun k _ hk => .inr (by omega)), below_setRow (show Below w.heap.size w _ from (by repeat (first | with_reducible exact Ext.refl _ | refine Ext.drewN ?_ _ | refine Ext.drew ?_ | refine Ext.alloc ?_ _ | assumption | (refine Below.trans ?_ (by assumption)) | (refine Ext.trans ?_ (by assumption)) | (refine Below.trans ?_ (Below.mono (by assumption) (by omega)))))) (Nat.le_refl _) _⟩
set_option maxHeartbeats 800000 in
theorem mgetLang (g : Nat) (m : Mg) (v : Value) (A : Nat → Prop) (w : World) (h : Blk w g 67 (mgA m v)) (hs : m.la.size ≤ 1000000) : Calls Tryz.prog 88 #[.pointer (some ⟨g, 0, none⟩)] w (GetP A 0 (bsL m.la) w) := by
  have hi : (Tryz.prog.info? 59).map (·.size) = some 4 := by kernel_rfl
  have HCV : ∀ (b : ByteArray) w', (convert 9 25 (.string b)).run Tryz.prog w' = _ := fun b w' => run_bytes_of_string w' 9 25 5 b Tryz.underlying9 Tryz.underlying25 Tryz.underlying5
  have kc := (mgC (h.ext ((Ext.refl w).alloc (.cells #[.int .i64 0, .int .u32 0, .slice none 0 0, .slice none 0 0] 59)))).k7
  obtain ⟨s, hs9⟩ : ∃ s, m.la = s := ⟨_, rfl⟩
  rw [hs9] at kc hs ⊢
  have B0 := Lib.hid (Blk.new w 59 #[.int .i64 0, .int .u32 0, .slice none 0 0, .slice none 0 0])
  clear h hs9
  go_enter Tryz.func88, Tryz.ntmps88
  go_wp2_with (refine wpList_store_row rfl 59 _ _ rfl w.heap.size _ rfl rfl 59 _ (B0.out.ext (by repeat (first | with_reducible exact Ext.refl _ | refine Ext.drewN ?_ _ | refine Ext.drew ?_ | refine Ext.alloc ?_ _ | assumption | (refine Below.trans ?_ (by assumption)) | (refine Ext.trans ?_ (by assumption)) | (refine Below.trans ?_ (Below.mono (by assumption) (by omega)))))) hi rfl (by simp [Value.oneCell']) ?_)
  refine bodyPost_ret_by (results_cell_row Tryz.results88 _ _ w.heap.size 59 _ _ _ rfl (Blk.setRow (B0.out.ext (by repeat (first | with_reducible exact Ext.refl _ | refine Ext.drewN ?_ _ | refine Ext.drew ?_ | refine Ext.alloc ?_ _ | assumption | (refine Below.trans ?_ (by assumption)) | (refine Ext.trans ?_ (by assumption)) | (refine Below.trans ?_ (Below.mono (by assumption) (by omega)))))) _) Tryz.underlying59 rfl hi) rfl ?_
  refine ⟨_, rfl, RdS.mono (RdS.mod (RdS.ext (txt_rds s _ _ _ (n := w.heap.size + 1) (by simp) (grownCap_ge _ _ _ _) (grownCap_le_maxLen _ _ _ _ (by simp [maxLen]; omega))) (Ext.drew (Ext.refl _))) (mod_setRow _) (fun k _ hk => by omega)) (fun k _ hk => .inr (by omega)), below_setRow (show Below w.heap.size w _ from (by repeat (first | with_reducible exact Ext.refl _ | refine Ext.drewN ?_ _ | refine Ext.drew ?_ | refine Ext.alloc ?_ _ | assumption | (refine Below.trans ?_ (by assumption)) | (refine Ext.trans ?_ (by assumption)) | (refine Below.trans ?_ (Below.mono (by assumption) (by omega)))))) (Nat.le_refl _) _⟩
end Go.Proofs.YtldijmappinngaaGreatDoor
