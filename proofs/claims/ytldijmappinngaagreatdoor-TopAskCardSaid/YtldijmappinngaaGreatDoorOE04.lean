/- message: its parts (kinds, what gets and what puts), by contract. No condition. -/
import Derived.Test.YtldijmappinngaaGreatDoorOD04
namespace Go.Proofs.YtldijmappinngaaGreatDoor
open Go.RowKit Go.Kb
set_option maxRecDepth 100000

/-- a part: its kind, what gets it, what puts it -/
structure Pa where
  k : Int
  g : Nat
  p : Nat
abbrev paA (q : Pa) : Array Value := #[.int .i64 q.k, .func (.func q.g) #[] #[], .func (.func q.p) #[] #[]]
def paCode : Pa := ⟨3, 84, 85⟩
def paWords : Pa := ⟨4, 86, 87⟩
def paLang : Pa := ⟨4, 88, 89⟩
def paName : Pa := ⟨4, 90, 91⟩
def paWant : Pa := ⟨2, 92, 93⟩
def paRest : Pa := ⟨6, 86, 87⟩
def paSender : Pa := ⟨3, 94, 95⟩
def paWindow : Pa := ⟨3, 96, 97⟩
def paPacket : Pa := ⟨3, 98, 99⟩
def paChan : Pa := ⟨3, 100, 101⟩
theorem code_part (w : World) : Calls Tryz.prog 32 #[] w fun e w' => e = .returned (.agg (paA paCode)) ∧ Ext w w' := by
  have hi : (Tryz.prog.info? 71).map (·.size) = some 3 := by kernel_rfl
  go_enter Tryz.func32, Tryz.ntmps32
  go_wp2_with (refine wpList_store_A rfl 71 _ _ rfl w.heap.size _ rfl rfl 71 _ (show Blk _ _ _ _ from Blk.at_ _ _ (by simp)) hi rfl (by simp [Value.oneCell']) ?_; intro w2 HB E2; have E2 := E2 w.heap.size w (by repeat (first | with_reducible exact Ext.refl _ | refine Ext.drewN ?_ _ | refine Ext.drew ?_ | refine Ext.alloc ?_ _ | assumption | (refine Below.trans ?_ (by assumption)) | (refine Ext.trans ?_ (by assumption)) | (refine Below.trans ?_ (Below.mono (by assumption) (by omega))))) (Nat.le_refl _))
  refine bodyPost_ret_by (results_cell_row Tryz.results32 _ _ w.heap.size 71 _ _ _ rfl HB Tryz.underlying71 rfl hi) rfl ?_
  exact ⟨rfl, E2⟩
theorem words_part (w : World) : Calls Tryz.prog 33 #[] w fun e w' => e = .returned (.agg (paA paWords)) ∧ Ext w w' := by
  have hi : (Tryz.prog.info? 71).map (·.size) = some 3 := by kernel_rfl
  go_enter Tryz.func33, Tryz.ntmps33
  go_wp2_with (refine wpList_store_A rfl 71 _ _ rfl w.heap.size _ rfl rfl 71 _ (show Blk _ _ _ _ from Blk.at_ _ _ (by simp)) hi rfl (by simp [Value.oneCell']) ?_; intro w2 HB E2; have E2 := E2 w.heap.size w (by repeat (first | with_reducible exact Ext.refl _ | refine Ext.drewN ?_ _ | refine Ext.drew ?_ | refine Ext.alloc ?_ _ | assumption | (refine Below.trans ?_ (by assumption)) | (refine Ext.trans ?_ (by assumption)) | (refine Below.trans ?_ (Below.mono (by assumption) (by omega))))) (Nat.le_refl _))
  refine bodyPost_ret_by (results_cell_row Tryz.results33 _ _ w.heap.size 71 _ _ _ rfl HB Tryz.underlying71 rfl hi) rfl ?_
  exact ⟨rfl, E2⟩
theorem lang_part (w : World) : Calls Tryz.prog 34 #[] w fun e w' => e = .returned (.agg (paA paLang)) ∧ Ext w w' := by
  have hi : (Tryz.prog.info? 71).map (·.size) = some 3 := by kernel_rfl
  go_enter Tryz.func34, Tryz.ntmps34
  go_wp2_with (refine wpList_store_A rfl 71 _ _ rfl w.heap.size _ rfl rfl 71 _ (show Blk _ _ _ _ from Blk.at_ _ _ (by simp)) hi rfl (by simp [Value.oneCell']) ?_; intro w2 HB E2; have E2 := E2 w.heap.size w (by repeat (first | with_reducible exact Ext.refl _ | refine Ext.drewN ?_ _ | refine Ext.drew ?_ | refine Ext.alloc ?_ _ | assumption | (refine Below.trans ?_ (by assumption)) | (refine Ext.trans ?_ (by assumption)) | (refine Below.trans ?_ (Below.mono (by assumption) (by omega))))) (Nat.le_refl _))
  refine bodyPost_ret_by (results_cell_row Tryz.results34 _ _ w.heap.size 71 _ _ _ rfl HB Tryz.underlying71 rfl hi) rfl ?_
  exact ⟨rfl, E2⟩
theorem name_part (w : World) : Calls Tryz.prog 35 #[] w fun e w' => e = .returned (.agg (paA paName)) ∧ Ext w w' := by
  have hi : (Tryz.prog.info? 71).map (·.size) = some 3 := by kernel_rfl
  go_enter Tryz.func35, Tryz.ntmps35
  go_wp2_with (refine wpList_store_A rfl 71 _ _ rfl w.heap.size _ rfl rfl 71 _ (show Blk _ _ _ _ from Blk.at_ _ _ (by simp)) hi rfl (by simp [Value.oneCell']) ?_; intro w2 HB E2; have E2 := E2 w.heap.size w (by repeat (first | with_reducible exact Ext.refl _ | refine Ext.drewN ?_ _ | refine Ext.drew ?_ | refine Ext.alloc ?_ _ | assumption | (refine Below.trans ?_ (by assumption)) | (refine Ext.trans ?_ (by assumption)) | (refine Below.trans ?_ (Below.mono (by assumption) (by omega))))) (Nat.le_refl _))
  refine bodyPost_ret_by (results_cell_row Tryz.results35 _ _ w.heap.size 71 _ _ _ rfl HB Tryz.underlying71 rfl hi) rfl ?_
  exact ⟨rfl, E2⟩
theorem want_part (w : World) : Calls Tryz.prog 36 #[] w fun e w' => e = .returned (.agg (paA paWant)) ∧ Ext w w' := by
  have hi : (Tryz.prog.info? 71).map (·.size) = some 3 := by kernel_rfl
  go_enter Tryz.func36, Tryz.ntmps36
  go_wp2_with (refine wpList_store_A rfl 71 _ _ rfl w.heap.size _ rfl rfl 71 _ (show Blk _ _ _ _ from Blk.at_ _ _ (by simp)) hi rfl (by simp [Value.oneCell']) ?_; intro w2 HB E2; have E2 := E2 w.heap.size w (by repeat (first | with_reducible exact Ext.refl _ | refine Ext.drewN ?_ _ | refine Ext.drew ?_ | refine Ext.alloc ?_ _ | assumption | (refine Below.trans ?_ (by assumption)) | (refine Ext.trans ?_ (by assumption)) | (refine Below.trans ?_ (Below.mono (by assumption) (by omega))))) (Nat.le_refl _))
  refine bodyPost_ret_by (results_cell_row Tryz.results36 _ _ w.heap.size 71 _ _ _ rfl HB Tryz.underlying71 rfl hi) rfl ?_
  exact ⟨rfl, E2⟩
theorem rest_part (w : World) : Calls Tryz.prog 37 #[] w fun e w' => e = .returned (.agg (paA paRest)) ∧ Ext w w' := by
  have hi : (Tryz.prog.info? 71).map (·.size) = some 3 := by kernel_rfl
  go_enter Tryz.func37, Tryz.ntmps37
  go_wp2_with (refine wpList_store_A rfl 71 _ _ rfl w.heap.size _ rfl rfl 71 _ (show Blk _ _ _ _ from Blk.at_ _ _ (by simp)) hi rfl (by simp [Value.oneCell']) ?_; intro w2 HB E2; have E2 := E2 w.heap.size w (by repeat (first | with_reducible exact Ext.refl _ | refine Ext.drewN ?_ _ | refine Ext.drew ?_ | refine Ext.alloc ?_ _ | assumption | (refine Below.trans ?_ (by assumption)) | (refine Ext.trans ?_ (by assumption)) | (refine Below.trans ?_ (Below.mono (by assumption) (by omega))))) (Nat.le_refl _))
  refine bodyPost_ret_by (results_cell_row Tryz.results37 _ _ w.heap.size 71 _ _ _ rfl HB Tryz.underlying71 rfl hi) rfl ?_
  exact ⟨rfl, E2⟩
theorem sender_part (w : World) : Calls Tryz.prog 38 #[] w fun e w' => e = .returned (.agg (paA paSender)) ∧ Ext w w' := by
  have hi : (Tryz.prog.info? 71).map (·.size) = some 3 := by kernel_rfl
  go_enter Tryz.func38, Tryz.ntmps38
  go_wp2_with (refine wpList_store_A rfl 71 _ _ rfl w.heap.size _ rfl rfl 71 _ (show Blk _ _ _ _ from Blk.at_ _ _ (by simp)) hi rfl (by simp [Value.oneCell']) ?_; intro w2 HB E2; have E2 := E2 w.heap.size w (by repeat (first | with_reducible exact Ext.refl _ | refine Ext.drewN ?_ _ | refine Ext.drew ?_ | refine Ext.alloc ?_ _ | assumption | (refine Below.trans ?_ (by assumption)) | (refine Ext.trans ?_ (by assumption)) | (refine Below.trans ?_ (Below.mono (by assumption) (by omega))))) (Nat.le_refl _))
  refine bodyPost_ret_by (results_cell_row Tryz.results38 _ _ w.heap.size 71 _ _ _ rfl HB Tryz.underlying71 rfl hi) rfl ?_
  exact ⟨rfl, E2⟩
theorem window_part (w : World) : Calls Tryz.prog 39 #[] w fun e w' => e = .returned (.agg (paA paWindow)) ∧ Ext w w' := by
  have hi : (Tryz.prog.info? 71).map (·.size) = some 3 := by kernel_rfl
  go_enter Tryz.func39, Tryz.ntmps39
  go_wp2_with (refine wpList_store_A rfl 71 _ _ rfl w.heap.size _ rfl rfl 71 _ (show Blk _ _ _ _ from Blk.at_ _ _ (by simp)) hi rfl (by simp [Value.oneCell']) ?_; intro w2 HB E2; have E2 := E2 w.heap.size w (by repeat (first | with_reducible exact Ext.refl _ | refine Ext.drewN ?_ _ | refine Ext.drew ?_ | refine Ext.alloc ?_ _ | assumption | (refine Below.trans ?_ (by assumption)) | (refine Ext.trans ?_ (by assumption)) | (refine Below.trans ?_ (Below.mono (by assumption) (by omega))))) (Nat.le_refl _))
  refine bodyPost_ret_by (results_cell_row Tryz.results39 _ _ w.heap.size 71 _ _ _ rfl HB Tryz.underlying71 rfl hi) rfl ?_
  exact ⟨rfl, E2⟩
theorem packet_part (w : World) : Calls Tryz.prog 40 #[] w fun e w' => e = .returned (.agg (paA paPacket)) ∧ Ext w w' := by
  have hi : (Tryz.prog.info? 71).map (·.size) = some 3 := by kernel_rfl
  go_enter Tryz.func40, Tryz.ntmps40
  go_wp2_with (refine wpList_store_A rfl 71 _ _ rfl w.heap.size _ rfl rfl 71 _ (show Blk _ _ _ _ from Blk.at_ _ _ (by simp)) hi rfl (by simp [Value.oneCell']) ?_; intro w2 HB E2; have E2 := E2 w.heap.size w (by repeat (first | with_reducible exact Ext.refl _ | refine Ext.drewN ?_ _ | refine Ext.drew ?_ | refine Ext.alloc ?_ _ | assumption | (refine Below.trans ?_ (by assumption)) | (refine Ext.trans ?_ (by assumption)) | (refine Below.trans ?_ (Below.mono (by assumption) (by omega))))) (Nat.le_refl _))
  refine bodyPost_ret_by (results_cell_row Tryz.results40 _ _ w.heap.size 71 _ _ _ rfl HB Tryz.underlying71 rfl hi) rfl ?_
  exact ⟨rfl, E2⟩
theorem channel_part (w : World) : Calls Tryz.prog 41 #[] w fun e w' => e = .returned (.agg (paA paChan)) ∧ Ext w w' := by
  have hi : (Tryz.prog.info? 71).map (·.size) = some 3 := by kernel_rfl
  go_enter Tryz.func41, Tryz.ntmps41
  go_wp2_with (refine wpList_store_A rfl 71 _ _ rfl w.heap.size _ rfl rfl 71 _ (show Blk _ _ _ _ from Blk.at_ _ _ (by simp)) hi rfl (by simp [Value.oneCell']) ?_; intro w2 HB E2; have E2 := E2 w.heap.size w (by repeat (first | with_reducible exact Ext.refl _ | refine Ext.drewN ?_ _ | refine Ext.drew ?_ | refine Ext.alloc ?_ _ | assumption | (refine Below.trans ?_ (by assumption)) | (refine Ext.trans ?_ (by assumption)) | (refine Below.trans ?_ (Below.mono (by assumption) (by omega))))) (Nat.le_refl _))
  refine bodyPost_ret_by (results_cell_row Tryz.results41 _ _ w.heap.size 71 _ _ _ rfl HB Tryz.underlying71 rfl hi) rfl ?_
  exact ⟨rfl, E2⟩
/-- a kind's parts -/
def rowL (k : Int) : Option (List Pa) :=
  if k = 1 then some [paCode, paWords, paLang] else if k = 80 then some [paName, paWant, paRest] else if k = 81 then some [paRest] else if k = 82 then some [] else if k = 90 then some [paName, paSender, paWindow, paPacket, paRest] else if k = 91 then some [paChan, paSender, paWindow, paPacket, paRest] else if k = 92 then some [paChan, paCode, paWords, paLang] else if k = 93 then some [paChan, paWindow] else if k = 94 then some [paChan, paWords] else if k = 95 then some [paChan, paCode, paWords] else if k = 96 ∨ k = 97 ∨ k = 99 ∨ k = 100 then some [paChan] else if k = 98 then some [paChan, paName, paWant, paRest] else none
theorem pa_len (ps : List Pa) : (ps.flatMap (fun q => (paA q).toList)).length = ps.length * 3 := by
  induction ps with
  | nil => rfl
  | cons a l ih => simp only [List.flatMap_cons, List.length_append, ih, List.length_cons]; simp; omega
/-- what row answers: new memory, or nothing -/
def RowP (k : Int) (w : World) (e : Ending) (w' : World) : Prop :=
  Ext w w' ∧ match rowL k with
  | none => e = .returned (.tuple #[.slice none 0 0, .bool false])
  | some ps => ∃ A, e = .returned (.tuple #[.slice A ps.length ps.length, .bool true]) ∧ (ps = [] ∨ ∃ g, A = some ⟨g, 0, none⟩ ∧ w.heap.size ≤ g ∧ Blk w' g 71 (ps.flatMap (fun q => (paA q).toList)).toArray)
end Go.Proofs.YtldijmappinngaaGreatDoor
