/- Written by chain.py of +ME17 +MB17 MoD[set_any]. No condition. -/
import Derived.Test.YtfnicinnjkbedaaGreatDoorME17
import Derived.Test.YtfnicinnjkbedaaGreatDoorMB17
namespace Go.Proofs.YtfnicinnjkbedaaGreatDoor
set_option maxRecDepth 100000
open Go.RowKit Go.Kb

set_option maxHeartbeats 800000 in
theorem set_any (t : Tm) (op : Int) (on : Bool) (w : World) (h : t.Ok) : Calls Tryz.prog 14 #[.agg t.arr, .int .i64 op, .bool on] w fun e w' => e = .returned (.agg (setL t op on).arr) ∧ Ext w w' := by
  have hn := t.size h
  have hat := Tm.at19 h
  have hf := h.f
  have h1 := t.one
  have hset : ∀ f, t.arr.setIfInBounds 19 (.int .u64 f) = ({ t with f := f } : Tm).arr := Tm.set19 h
  by_cases hg : flagL op = true
  · have hO := flag_bd hg
    have hs : (setL t op on).arr = ({ t with f := fset t.f op on } : Tm).arr := by unfold setL; rw [if_pos hg]
    have h1' := (setL t op on).one
    have hn' := Tm.size (setL_ok h op on)
    have hor := or_pw hf hO
    have han := andNot_pw hf hO
    rw [hs] at h1' hn' ⊢
    have hi : (Tryz.prog.info? 26).map (·.size) = some ({ t with f := fset t.f op on } : Tm).arr.size := by rw [hn']; kernel_rfl
    cases on
    · have hv : bits .andNot .u64 t.f (pw op) = fset t.f op false := by rw [han]; rfl
      have hST : t.arr.setIfInBounds 19 (.int .u64 (bits .andNot .u64 t.f (pw op))) = ({ t with f := fset t.f op false } : Tm).arr := by rw [hset, hv]
      generalize ({ t with f := fset t.f op false } : Tm).arr = ct at *
      generalize t.arr = cs at *
      generalize t.f = f at *
      have hZ := Lib.hid hn'.symm
      clear h hs h1 hor han hv hset
      go_enter Tryz.func14, Tryz.ntmps14
      (go_wp2_with fail; refine (isFlag_any op _).mono ?_; rintro e w1 ⟨rfl, E1⟩)
      rw [hg]
      have hA := ((Blk.new w 26 cs).alloc _).ext E1
      have hB := (Blk.at_ (w := w.alloc (.cells cs 26)) (B := w.heap.size + 1) 26 _ (by simp)).ext E1
      have hc0 : ∀ w', Ext w1 w' → w'.cell? ⟨w.heap.size, 19, none⟩ = some (.int .u64 f) ∧ w'.frozen? ⟨w.heap.size, 19, none⟩ = false := fun w' hE => ⟨by rw [(hA.ext hE).cell, hat], (hA.ext hE).frozen _⟩
      have hl1 := hc0 w1.drew (by repeat (first | with_reducible exact Ext.refl _ | refine Ext.drewN ?_ _ | refine Ext.drew ?_ | refine Ext.alloc ?_ _ | assumption | (refine Below.trans ?_ (by assumption)) | (refine Ext.trans ?_ (by assumption)) | (refine Below.trans ?_ (Below.mono (by assumption) (by omega)))))
      obtain ⟨hl1, hl1f⟩ := hl1
      have Ew : Ext w w1 := (by repeat (first | with_reducible exact Ext.refl _ | refine Ext.drewN ?_ _ | refine Ext.drew ?_ | refine Ext.alloc ?_ _ | assumption | (refine Below.trans ?_ (by assumption)) | (refine Ext.trans ?_ (by assumption)) | (refine Below.trans ?_ (Below.mono (by assumption) (by omega)))))
      go_wp2_with fail
      go_region_law (go_simp; first
        | ((go_at_call 28; (with_reducible refine (bit_any op _ hO).mono ?_); rintro e w2 ⟨rfl, E2⟩); have E12 : Ext w1 w2 := (by repeat (first | with_reducible exact Ext.refl _ | refine Ext.drewN ?_ _ | refine Ext.drew ?_ | refine Ext.alloc ?_ _ | assumption | (refine Below.trans ?_ (by assumption)) | (refine Ext.trans ?_ (by assumption)) | (refine Below.trans ?_ (Below.mono (by assumption) (by omega))))); obtain ⟨hl2, hl2f⟩ := hc0 w2 E12))
      all_goals have Ew2 := Ew.trans E12
      all_goals clear hl1 hl1f hl2 hl2f hc0
      all_goals have hB := (hB.ext E12).far (p := ⟨w.heap.size, 19, none⟩) (by simp) (.int .u64 (bits .andNot .u64 f (pw op)))
      all_goals have hA := (hA.ext E12).set_ 19 (.int .u64 (bits .andNot .u64 f (pw op)))
      all_goals rw [hST] at hA
      all_goals clear E1 E2
      all_goals
        go_wp2_with (first
          | (refine wpList_load_row rfl 26 _ rfl _ rfl 26 _ _ _ hA Tryz.underlying26 rfl hi ?_)
          | (refine wpList_store_row rfl 26 _ _ rfl _ _ rfl rfl 26 _ hB hi hZ.out h1' ?_))
        refine bodyPost_ret_by (results_cell_row Tryz.results14 _ _ (w.heap.size + 1) 26 _ _ _ rfl (Blk.setRow hB _) Tryz.underlying26 rfl hi) rfl ?_
        exact ⟨rfl, below_setRow (Below.setCell Ew2 (by simp) _) (by omega) _⟩
    · have hv : bits .or .u64 t.f (pw op) = fset t.f op true := by rw [hor]; rfl
      have hST : t.arr.setIfInBounds 19 (.int .u64 (bits .or .u64 t.f (pw op))) = ({ t with f := fset t.f op true } : Tm).arr := by rw [hset, hv]
      generalize ({ t with f := fset t.f op true } : Tm).arr = ct at *
      generalize t.arr = cs at *
      generalize t.f = f at *
      have hZ := Lib.hid hn'.symm
      clear h hs h1 hor han hv hset
      go_enter Tryz.func14, Tryz.ntmps14
      (go_wp2_with fail; refine (isFlag_any op _).mono ?_; rintro e w1 ⟨rfl, E1⟩)
      rw [hg]
      have hA := ((Blk.new w 26 cs).alloc _).ext E1
      have hB := (Blk.at_ (w := w.alloc (.cells cs 26)) (B := w.heap.size + 1) 26 _ (by simp)).ext E1
      have hc0 : ∀ w', Ext w1 w' → w'.cell? ⟨w.heap.size, 19, none⟩ = some (.int .u64 f) ∧ w'.frozen? ⟨w.heap.size, 19, none⟩ = false := fun w' hE => ⟨by rw [(hA.ext hE).cell, hat], (hA.ext hE).frozen _⟩
      have hl1 := hc0 w1.drew (by repeat (first | with_reducible exact Ext.refl _ | refine Ext.drewN ?_ _ | refine Ext.drew ?_ | refine Ext.alloc ?_ _ | assumption | (refine Below.trans ?_ (by assumption)) | (refine Ext.trans ?_ (by assumption)) | (refine Below.trans ?_ (Below.mono (by assumption) (by omega)))))
      obtain ⟨hl1, hl1f⟩ := hl1
      have Ew : Ext w w1 := (by repeat (first | with_reducible exact Ext.refl _ | refine Ext.drewN ?_ _ | refine Ext.drew ?_ | refine Ext.alloc ?_ _ | assumption | (refine Below.trans ?_ (by assumption)) | (refine Ext.trans ?_ (by assumption)) | (refine Below.trans ?_ (Below.mono (by assumption) (by omega)))))
      go_wp2_with fail
      go_region_law (go_simp; first
        | ((go_at_call 28; (with_reducible refine (bit_any op _ hO).mono ?_); rintro e w2 ⟨rfl, E2⟩); have E12 : Ext w1 w2 := (by repeat (first | with_reducible exact Ext.refl _ | refine Ext.drewN ?_ _ | refine Ext.drew ?_ | refine Ext.alloc ?_ _ | assumption | (refine Below.trans ?_ (by assumption)) | (refine Ext.trans ?_ (by assumption)) | (refine Below.trans ?_ (Below.mono (by assumption) (by omega))))); obtain ⟨hl2, hl2f⟩ := hc0 w2 E12))
      all_goals have Ew2 := Ew.trans E12
      all_goals clear hl1 hl1f hl2 hl2f hc0
      all_goals have hB := (hB.ext E12).far (p := ⟨w.heap.size, 19, none⟩) (by simp) (.int .u64 (bits .or .u64 f (pw op)))
      all_goals have hA := (hA.ext E12).set_ 19 (.int .u64 (bits .or .u64 f (pw op)))
      all_goals rw [hST] at hA
      all_goals clear E1 E2
      all_goals
        go_wp2_with (first
          | (refine wpList_load_row rfl 26 _ rfl _ rfl 26 _ _ _ hA Tryz.underlying26 rfl hi ?_)
          | (refine wpList_store_row rfl 26 _ _ rfl _ _ rfl rfl 26 _ hB hi hZ.out h1' ?_))
        refine bodyPost_ret_by (results_cell_row Tryz.results14 _ _ (w.heap.size + 1) 26 _ _ _ rfl (Blk.setRow hB _) Tryz.underlying26 rfl hi) rfl ?_
        exact ⟨rfl, below_setRow (Below.setCell Ew2 (by simp) _) (by omega) _⟩
  · have hg' : flagL op = false := by simpa using hg
    have hs : (setL t op on).arr = t.arr := by unfold setL; rw [if_neg hg]
    rw [hs]
    generalize t.arr = cs at *
    have hi : (Tryz.prog.info? 26).map (·.size) = some cs.size := by rw [hn]; kernel_rfl
    clear h hat hset hs
    go_enter Tryz.func14, Tryz.ntmps14
    (go_wp2_with fail; refine (isFlag_any op _).mono ?_; rintro e w1 ⟨rfl, E1⟩)
    rw [hg']
    have hA := ((Blk.new w 26 cs).alloc _).ext E1
    have hB := (Blk.at_ (w := w.alloc (.cells cs 26)) (B := w.heap.size + 1) 26 _ (by simp)).ext E1
    go_wp2_with (first
      | (refine wpList_load_row rfl 26 _ rfl _ rfl 26 _ _ _ hA Tryz.underlying26 rfl hi ?_)
      | (refine wpList_store_row rfl 26 _ _ rfl _ _ rfl rfl 26 _ hB hi (by rw [hn]; rfl) h1 ?_))
    refine bodyPost_ret_by (results_cell_row Tryz.results14 _ _ (w.heap.size + 1) 26 _ _ _ rfl (Blk.setRow hB _) Tryz.underlying26 rfl hi) rfl ?_
    exact ⟨rfl, below_setRow (by repeat (first | with_reducible exact Ext.refl _ | refine Ext.drewN ?_ _ | refine Ext.drew ?_ | refine Ext.alloc ?_ _ | assumption | (refine Below.trans ?_ (by assumption)) | (refine Ext.trans ?_ (by assumption)) | (refine Below.trans ?_ (Below.mono (by assumption) (by omega))))) (by omega) _⟩
end Go.Proofs.YtfnicinnjkbedaaGreatDoor
