/- The document's way of setting a flag, by contract. Conditions: the setting is one. -/
import Derived.Test.YtpngnmokagbekaaMoS
import Derived.Test.YtpngnmokagbekaaMoF
import Derived.Test.YtpngnmokagbekaaRep
namespace Go.Proofs.Ytpngnmokagbekaa
open Go.RowKit Go.Kb

set_option maxHeartbeats 800000 in
theorem rset_any (t : Tm) (op : Int) (on : Bool) (w : World) (h : t.Ok) : Calls Try.prog 18 #[.agg t.arr, .int .i64 op, .bool on] w fun e w' => e = .returned (.agg (setL t op on).arr) ∧ Ext w w' := by
  have hn := t.size h
  have hat := Tm.at19 h
  have hf := h.f
  have h1 := Lib.hid t.one
  have hset : ∀ f, t.arr.setIfInBounds 19 (.int .u64 f) = ({ t with f := f } : Tm).arr := Tm.set19 h
  have hH := fun w' => rhas_any t op w' h
  by_cases hsame : flagL op = false ∨ hasL t op = on
  · have hs : setL t op on = t := by
      rcases hsame with h | h
      · unfold setL; rw [if_neg (by rw [h]; simp)]
      · exact setL_same h
    rw [hs]
    generalize hasL t op = f at hH hsame
    generalize t.arr = cs at *
    have hi : (Try.prog.info? 27).map (·.size) = some cs.size := by rw [hn]; kernel_rfl
    clear h hat hset hs
    rcases Bool.eq_false_or_eq_true (flagL op) with hg | hg
    · have : f = on := by
        rcases hsame with h | h
        · rw [hg] at h; cases h
        · exact h
      subst this
      clear hsame
      have hff : (f == f) = true := by simp
      go_enter Try.func18, Try.ntmps18
      (go_wp2_with fail; refine (flag_any op _).mono ?_; rintro e w1 ⟨rfl, E1⟩)
      rw [hg]
      have hA := Lib.hid (((Blk.new w 27 cs).alloc _).ext E1)
      have hB := Lib.hid ((Blk.at_ (w := w.alloc (.cells cs 27)) (B := w.heap.size + 1) 27 _ (by simp)).ext E1)
      have Ew : Ext w w1 := (by repeat (first | with_reducible exact Ext.refl _ | refine Ext.drewN ?_ _ | refine Ext.drew ?_ | refine Ext.alloc ?_ _ | assumption | (refine Below.trans ?_ (by assumption)) | (refine Ext.trans ?_ (by assumption)) | (refine Below.trans ?_ (Below.mono (by assumption) (by omega)))))
      clear E1
      go_wp2_with (first
        | (refine wpList_openG rfl rfl ?_; (refine wpList_load_row rfl 27 _ rfl _ rfl 27 _ _ _ hA.out Try.underlying27 rfl hi ?_))
        | ((go_at_call 16; refine (hH _).mono ?_; rintro e w2 ⟨rfl, E2⟩); have hA2 := Lib.hid (hA.out.ext E2); have hB2 := Lib.hid (hB.out.ext E2))
        | (refine wpList_load_row rfl 27 _ rfl _ rfl 27 _ _ _ hA2.out Try.underlying27 rfl hi ?_)
        | (refine wpList_store_row rfl 27 _ _ rfl _ _ rfl rfl 27 _ hB2.out hi (by rw [hn]; rfl) h1.out ?_))
      refine bodyPost_ret_by (results_cell_row Try.results18 _ _ (w.heap.size + 1) 27 _ _ _ rfl (Blk.setRow hB2.out _) Try.underlying27 rfl hi) rfl ?_
      exact ⟨rfl, below_setRow (Ew.trans E2) (by omega) _⟩
    · clear hsame
      go_enter Try.func18, Try.ntmps18
      (go_wp2_with fail; refine (flag_any op _).mono ?_; rintro e w1 ⟨rfl, E1⟩)
      rw [hg]
      have hA := Lib.hid (((Blk.new w 27 cs).alloc _).ext E1)
      have hB := Lib.hid ((Blk.at_ (w := w.alloc (.cells cs 27)) (B := w.heap.size + 1) 27 _ (by simp)).ext E1)
      have Ew : Ext w w1 := (by repeat (first | with_reducible exact Ext.refl _ | refine Ext.drewN ?_ _ | refine Ext.drew ?_ | refine Ext.alloc ?_ _ | assumption | (refine Below.trans ?_ (by assumption)) | (refine Ext.trans ?_ (by assumption)) | (refine Below.trans ?_ (Below.mono (by assumption) (by omega)))))
      clear E1
      go_wp2_with (first
        | (refine wpList_load_row rfl 27 _ rfl _ rfl 27 _ _ _ hA.out Try.underlying27 rfl hi ?_)
        | (refine wpList_store_row rfl 27 _ _ rfl _ _ rfl rfl 27 _ hB.out hi (by rw [hn]; rfl) h1.out ?_))
      refine bodyPost_ret_by (results_cell_row Try.results18 _ _ (w.heap.size + 1) 27 _ _ _ rfl (Blk.setRow hB.out _) Try.underlying27 rfl hi) rfl ?_
      exact ⟨rfl, below_setRow Ew (by omega) _⟩
  · have hg : flagL op = true := by
      rcases Bool.eq_false_or_eq_true (flagL op) with hg | hg
      · exact hg
      · exact absurd (.inl hg) hsame
    have hne : hasL t op = !on := by
      rcases Bool.eq_false_or_eq_true (hasL t op) with h | h <;> cases on <;> simp_all
    clear hsame
    have hO := flag_bd hg
    have hs : (setL t op on).arr = ({ t with f := fset t.f op on } : Tm).arr := by unfold setL; rw [if_pos hg]
    have h1' := Lib.hid (setL t op on).one
    have hn' := Tm.size (setL_ok h op on)
    have hfb := fset_bd on hf hO
    have hpb := pw_bd hO
    have hof : onL t.f op = !on := by unfold hasL at hne; rwa [hg, Bool.true_and] at hne
    rw [hs] at h1' hn' ⊢
    rw [hne] at hH
    have hi : (Try.prog.info? 27).map (·.size) = some ({ t with f := fset t.f op on } : Tm).arr.size := by rw [hn']; kernel_rfl
    have hi0 : (Try.prog.info? 27).map (·.size) = some t.arr.size := by rw [hn]; kernel_rfl
    have hZ := Lib.hid hn'.symm
    cases on
    · have hv : t.f - pw op = fset t.f op false := by
        unfold fset; rw [hof]; rfl
      have hwr : IntKind.u64.wrap (t.f - pw op) = t.f - pw op := by rw [IntKind.wrap_u64]; omega
      have hST : t.arr.setIfInBounds 19 (.int .u64 (t.f - pw op)) = ({ t with f := fset t.f op false } : Tm).arr := by rw [hset, hv]
      have hST := Lib.hid hST
      generalize ({ t with f := fset t.f op false } : Tm).arr = ct at *
      generalize t.arr = cs at *
      generalize t.f = f at *
      clear h hs hset hof hne hv hfb
      go_enter Try.func18, Try.ntmps18
      (go_wp2_with fail; refine (flag_any op _).mono ?_; rintro e w1 ⟨rfl, E1⟩)
      rw [hg]
      have hA := Lib.hid (((Blk.new w 27 cs).alloc _).ext E1)
      have hB := Lib.hid ((Blk.at_ (w := w.alloc (.cells cs 27)) (B := w.heap.size + 1) 27 _ (by simp)).ext E1)
      have Ew : Ext w w1 := (by repeat (first | with_reducible exact Ext.refl _ | refine Ext.drewN ?_ _ | refine Ext.drew ?_ | refine Ext.alloc ?_ _ | assumption | (refine Below.trans ?_ (by assumption)) | (refine Ext.trans ?_ (by assumption)) | (refine Below.trans ?_ (Below.mono (by assumption) (by omega)))))
      clear E1
      go_wp2_with (first
        | (refine wpList_openG rfl rfl ?_; (refine wpList_load_row rfl 27 _ rfl _ rfl 27 _ _ _ hA.out Try.underlying27 rfl hi0 ?_))
        | ((go_at_call 16; refine (hH _).mono ?_; rintro e w2 ⟨rfl, E2⟩); have hA2 := Lib.hid (hA.out.ext E2); have hB2 := Lib.hid (hB.out.ext E2); have Ew2 := Ew.trans E2))
      have hc0 : ∀ w', Ext w2 w' → w'.cell? ⟨w.heap.size, 19, none⟩ = some (.int .u64 f) ∧ w'.frozen? ⟨w.heap.size, 19, none⟩ = false := fun w' hE => ⟨by rw [(hA2.out.ext hE).cell, hat], (hA2.out.ext hE).frozen _⟩
      obtain ⟨hl1, hl1f⟩ := hc0 w2.drew (by repeat (first | with_reducible exact Ext.refl _ | refine Ext.drewN ?_ _ | refine Ext.drew ?_ | refine Ext.alloc ?_ _ | assumption | (refine Below.trans ?_ (by assumption)) | (refine Ext.trans ?_ (by assumption)) | (refine Below.trans ?_ (Below.mono (by assumption) (by omega)))))
      go_region_law (go_simp; first
        | ((go_at_call 33; (with_reducible refine (rbit_any op _ hO).mono ?_); rintro e w3 ⟨rfl, E3⟩); have E12 : Ext w2 w3 := (by repeat (first | with_reducible exact Ext.refl _ | refine Ext.drewN ?_ _ | refine Ext.drew ?_ | refine Ext.alloc ?_ _ | assumption | (refine Below.trans ?_ (by assumption)) | (refine Ext.trans ?_ (by assumption)) | (refine Below.trans ?_ (Below.mono (by assumption) (by omega))))); obtain ⟨hl2, hl2f⟩ := hc0 w3 E12))
      all_goals have Ew3 := Ew2.trans E12
      all_goals clear hl1 hl1f hl2 hl2f hc0
      all_goals have hB := Lib.hid ((hB2.out.ext E12).far (p := ⟨w.heap.size, 19, none⟩) (by simp) (.int .u64 (f - pw op)))
      all_goals have hA := Lib.hid (Blk.cast ((hA2.out.ext E12).set_ 19 (.int .u64 (f - pw op))) hST.out)
      all_goals clear E2 E3
      all_goals
        go_wp2_with (first
          | (refine wpList_load_row rfl 27 _ rfl _ rfl 27 _ _ _ hA.out Try.underlying27 rfl hi ?_)
          | (refine wpList_store_row rfl 27 _ _ rfl _ _ rfl rfl 27 _ hB.out hi hZ.out h1'.out ?_))
        refine bodyPost_ret_by (results_cell_row Try.results18 _ _ (w.heap.size + 1) 27 _ _ _ rfl (Blk.setRow hB.out _) Try.underlying27 rfl hi) rfl ?_
        exact ⟨rfl, below_setRow (Below.setCell Ew3 (by simp) _) (by omega) _⟩
    · have hv : t.f + pw op = fset t.f op true := by
        unfold fset; rw [hof]; rfl
      have hwr : IntKind.u64.wrap (t.f + pw op) = t.f + pw op := by rw [IntKind.wrap_u64]; omega
      have hST : t.arr.setIfInBounds 19 (.int .u64 (t.f + pw op)) = ({ t with f := fset t.f op true } : Tm).arr := by rw [hset, hv]
      have hST := Lib.hid hST
      generalize ({ t with f := fset t.f op true } : Tm).arr = ct at *
      generalize t.arr = cs at *
      generalize t.f = f at *
      clear h hs hset hof hne hv hfb
      go_enter Try.func18, Try.ntmps18
      (go_wp2_with fail; refine (flag_any op _).mono ?_; rintro e w1 ⟨rfl, E1⟩)
      rw [hg]
      have hA := Lib.hid (((Blk.new w 27 cs).alloc _).ext E1)
      have hB := Lib.hid ((Blk.at_ (w := w.alloc (.cells cs 27)) (B := w.heap.size + 1) 27 _ (by simp)).ext E1)
      have Ew : Ext w w1 := (by repeat (first | with_reducible exact Ext.refl _ | refine Ext.drewN ?_ _ | refine Ext.drew ?_ | refine Ext.alloc ?_ _ | assumption | (refine Below.trans ?_ (by assumption)) | (refine Ext.trans ?_ (by assumption)) | (refine Below.trans ?_ (Below.mono (by assumption) (by omega)))))
      clear E1
      go_wp2_with (first
        | (refine wpList_openG rfl rfl ?_; (refine wpList_load_row rfl 27 _ rfl _ rfl 27 _ _ _ hA.out Try.underlying27 rfl hi0 ?_))
        | ((go_at_call 16; refine (hH _).mono ?_; rintro e w2 ⟨rfl, E2⟩); have hA2 := Lib.hid (hA.out.ext E2); have hB2 := Lib.hid (hB.out.ext E2); have Ew2 := Ew.trans E2))
      have hc0 : ∀ w', Ext w2 w' → w'.cell? ⟨w.heap.size, 19, none⟩ = some (.int .u64 f) ∧ w'.frozen? ⟨w.heap.size, 19, none⟩ = false := fun w' hE => ⟨by rw [(hA2.out.ext hE).cell, hat], (hA2.out.ext hE).frozen _⟩
      obtain ⟨hl1, hl1f⟩ := hc0 w2.drew (by repeat (first | with_reducible exact Ext.refl _ | refine Ext.drewN ?_ _ | refine Ext.drew ?_ | refine Ext.alloc ?_ _ | assumption | (refine Below.trans ?_ (by assumption)) | (refine Ext.trans ?_ (by assumption)) | (refine Below.trans ?_ (Below.mono (by assumption) (by omega)))))
      go_region_law (go_simp; first
        | ((go_at_call 33; (with_reducible refine (rbit_any op _ hO).mono ?_); rintro e w3 ⟨rfl, E3⟩); have E12 : Ext w2 w3 := (by repeat (first | with_reducible exact Ext.refl _ | refine Ext.drewN ?_ _ | refine Ext.drew ?_ | refine Ext.alloc ?_ _ | assumption | (refine Below.trans ?_ (by assumption)) | (refine Ext.trans ?_ (by assumption)) | (refine Below.trans ?_ (Below.mono (by assumption) (by omega))))); obtain ⟨hl2, hl2f⟩ := hc0 w3 E12))
      all_goals have Ew3 := Ew2.trans E12
      all_goals clear hl1 hl1f hl2 hl2f hc0
      all_goals have hB := Lib.hid ((hB2.out.ext E12).far (p := ⟨w.heap.size, 19, none⟩) (by simp) (.int .u64 (f + pw op)))
      all_goals have hA := Lib.hid (Blk.cast ((hA2.out.ext E12).set_ 19 (.int .u64 (f + pw op))) hST.out)
      all_goals clear E2 E3
      all_goals
        go_wp2_with (first
          | (refine wpList_load_row rfl 27 _ rfl _ rfl 27 _ _ _ hA.out Try.underlying27 rfl hi ?_)
          | (refine wpList_store_row rfl 27 _ _ rfl _ _ rfl rfl 27 _ hB.out hi hZ.out h1'.out ?_))
        refine bodyPost_ret_by (results_cell_row Try.results18 _ _ (w.heap.size + 1) 27 _ _ _ rfl (Blk.setRow hB.out _) Try.underlying27 rfl hi) rfl ?_
        exact ⟨rfl, below_setRow (Below.setCell Ew3 (by simp) _) (by omega) _⟩
end Go.Proofs.Ytpngnmokagbekaa
