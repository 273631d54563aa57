/- Processes cloned, a table in new memory, by contract. Conditions: few processes. -/
import Derived.Test.YtmpmnikgbepphaaG20
namespace Go.Proofs.Ytmpmnikgbepphaa
open Go.RowKit Go.Kb

/- slices.Clone at one slice type: slices.Clone[[]parlour/table.Proc,parlour/table.Proc] (pr), slice type []table.Proc, element parlour/table.Proc, rep Rp -/
theorem info_pr : (Try.prog.info? 43).map (fun i => (i.zero, i.size, i.bytes)) = some (some (.agg zeroP.cells.toArray), (Rp).size, 344) := by kernel_rfl
set_option maxHeartbeats 400000 in
theorem clone_pr {A : Nat → Prop} (v : Value) (ds : List _) (w : World) (h : RdY Rp A w v ds) (hn : ds.length * 344 ≤ 140737488355328) :
    Calls Try.prog 40 #[v] w fun e w' => ∃ Ad c, e = .returned (.slice Ad ds.length c) ∧ OwnS Rp 43 w.heap.size (fun k => A k ∧ k < w.heap.size) w' (.slice Ad ds.length c) ds ∧ Ext w w' := by
  obtain ⟨us, ⟨hl, Ad, c, rfl, hnc, hcm, hA⟩, he⟩ := id h
  have H := Lib.hid h
  have HL := Lib.hid hl
  clear h hl he
  have heq := fun u => Lib.run_eql_slice_nil (P := Try.prog) u 27 _ Ad ds.length c 0 0 Try.underlying27
  rcases Ad with _ | ad
  · have h0 : ds.length = 0 ∧ c = 0 := by
      rcases hA with rfl | ⟨b, off, h0, _⟩
      · omega
      · cases h0
    obtain ⟨h1, rfl⟩ := h0
    obtain rfl : ds = [] := List.eq_nil_of_length_eq_zero h1
    clear hA HL h1
    simp only [List.length_nil] at heq ⊢
    go_enter Try.func40, Try.ntmps40
    go_wp2
    go_ret
    exact ⟨_, _, rfl, OwnS.nil _ _ _ _ _, (by repeat (first | with_reducible exact Ext.refl _ | refine Ext.drewN ?_ _ | refine Ext.drew ?_ | refine Ext.alloc ?_ _ | assumption | (refine Below.trans ?_ (by assumption)) | (refine Ext.trans ?_ (by assumption)) | (refine Below.trans ?_ (Below.mono (by assumption) (by omega)))))⟩
  · clear hA
    go_enter Try.func40, Try.ntmps40
    go_wp2_with ((at_builtin; refine wpList_app (e := Rp) (base := w.heap.size) (B := fun k => A k ∧ k < w.heap.size) (A := fun k => A k ∧ k < w.heap.size) rfl _ _ rfl Try.underlying27 info_pr rfl (OwnS.empty _ _ _ rfl (Nat.le_refl _)) rfl (RdY.alloc (RdY.lt H.out) _) rfl (fun k _ hk => ⟨hk, fun h => by have := hk.2; simp [Value.ownBlock] at h; omega⟩) (N := ds.length) (by simp) (by simp [maxLen]; omega) (by omega) (by simp) ?_; intro A1 c1 w1 hown hM hB; simp only [List.nil_append] at hown))
    go_ret
    exact ⟨_, _, rfl, hown, (by repeat (first | with_reducible exact Ext.refl _ | refine Ext.drewN ?_ _ | refine Ext.drew ?_ | refine Ext.alloc ?_ _ | assumption | (refine Below.trans ?_ (by assumption)) | (refine Ext.trans ?_ (by assumption)) | (refine Below.trans ?_ (Below.mono (by assumption) (by omega)))))⟩
theorem rdy_pr {A B : Nat → Prop} {w : World} {v : Value} {l : List Pr} (h : RdY Rp A w v l) : RdY Rp B w v l := by
  obtain ⟨us, hr, he, h2⟩ := h
  exact ⟨us, hr, he, h2⟩
/-- a table's value -/
abbrev tv (Ad : Option Addr) (n c : Nat) (nx : Int) : Value := .agg #[.slice Ad n c, .int .i64 nx]
set_option maxRecDepth 100000 in
set_option maxHeartbeats 800000 in
theorem twin_any {A : Nat → Prop} (Ad : Option Addr) (c : Nat) (l : List Pr) (nx : Int) (w : World) (h : RdY Rp A w (.slice Ad l.length c) l) (hn : l.length ≤ 1000000) :
    Calls Try.prog 63 #[.agg #[.slice Ad l.length c, .int .i64 nx]] w fun e w' => ∃ A' c', e = .returned (.agg #[.slice A' l.length c', .int .i64 nx]) ∧ OwnS Rp 43 w.heap.size (fun _ => False) w' (.slice A' l.length c') l ∧ Ext w w' := by
  have H := Lib.hid (rdy_pr (B := fun _ => False) h)
  have hbox := Lib.hid (Blk.new w 29 #[.slice Ad l.length c, .int .i64 nx])
  have hres := Lib.hid (Blk.at_ (w := w.alloc (.cells #[.slice Ad l.length c, .int .i64 nx] 29)) (B := w.heap.size + 1) 29 #[.slice none 0 0, .int .i64 0] (by simp))
  obtain ⟨W, hW⟩ : ∃ W, W = (w.alloc (.cells #[.slice Ad l.length c, .int .i64 nx] 29)).alloc (.cells #[.slice none 0 0, .int .i64 0] 29) := ⟨_, rfl⟩
  have E0 : Ext w W := by rw [hW]; exact (by repeat (first | with_reducible exact Ext.refl _ | refine Ext.drewN ?_ _ | refine Ext.drew ?_ | refine Ext.alloc ?_ _ | assumption | (refine Below.trans ?_ (by assumption)) | (refine Ext.trans ?_ (by assumption)) | (refine Below.trans ?_ (Below.mono (by assumption) (by omega)))))
  have hbox := Lib.hid (hbox.out.alloc (.cells #[.slice none 0 0, .int .i64 0] 29))
  rw [← hW] at hbox hres
  have HW := Lib.hid hW
  clear h hW
  go_enter Try.func63, Try.ntmps63
  go_wp2
  rw [← HW.out]
  have hl : w.heap.size < w.heap.size + 1 := by omega
  refine wp_region_held_drew (S := fun w' => Mod (fun k => k = w.heap.size + 1) W w') (by kernel_rfl) (Mod.of_ext (Ext.drew (Ext.refl _))) (fun hHeld => ?_)
  (refine wpAnyH_take (i := 0) (v := ?_) rfl (by kernel_rfl) (by kernel_rfl) (by kernel_rfl) (fun _ _ _ h => h) (Or.inl ⟨by rfl, ?_⟩) (by assumption) ?_; rotate_left; (focus (intro w' hSw; go_simp; try with_reducible rfl)); (try simp only [List.getElem_toArray]); (try simp only [List.getElem_cons_succ]); (try simp only [List.getElem_cons_zero]); (try simp only [Act.put]); (try simp only [List.setIfInBounds_toArray]); (try simp only [List.set_cons_succ]); (try simp only [List.set_cons_zero]))
  (refine wpAnyH_take (i := 3) (v := ?_) rfl (by kernel_rfl) (by kernel_rfl) (by kernel_rfl) (fun _ _ _ h => h) (Or.inl ⟨by rfl, ?_⟩) (by assumption) ?_; rotate_left; (focus (intro w' hSw; go_simp; try with_reducible rfl)); (try simp only [List.getElem_toArray]); (try simp only [List.getElem_cons_succ]); (try simp only [List.getElem_cons_zero]); (try simp only [Act.put]); (try simp only [List.setIfInBounds_toArray]); (try simp only [List.set_cons_succ]); (try simp only [List.set_cons_zero]))
  (refine wpAnyH_take (i := 1) (v := ?_) rfl (by kernel_rfl) (by kernel_rfl) (by kernel_rfl) (fun _ _ _ h => h) (Or.inl ⟨by rfl, ?_⟩) (by assumption) ?_; rotate_left; (focus (intro w' hSw; have kc := (hbox.out.mod hSw (by omega)).two; go_simp; try with_reducible rfl)); (try simp only [List.getElem_toArray]); (try simp only [List.getElem_cons_succ]); (try simp only [List.getElem_cons_zero]); (try simp only [Act.put]); (try simp only [List.setIfInBounds_toArray]); (try simp only [List.set_cons_succ]); (try simp only [List.set_cons_zero]))
  (refine wpAnyH_take (i := 4) (v := ?_) rfl (by kernel_rfl) (by kernel_rfl) (by kernel_rfl) (fun _ _ _ h => h) (Or.inl ⟨by rfl, ?_⟩) (by assumption) ?_; rotate_left; (focus (intro w' hSw; have kc := (hbox.out.mod hSw (by omega)).two; go_simp; try with_reducible rfl)); (try simp only [List.getElem_toArray]); (try simp only [List.getElem_cons_succ]); (try simp only [List.getElem_cons_zero]); (try simp only [Act.put]); (try simp only [List.setIfInBounds_toArray]); (try simp only [List.set_cons_succ]); (try simp only [List.set_cons_zero]))
  (refine wpAnyH_ready (rs := [2]) (by kernel_rfl) (by simp) ?_; refine AllReadyH.cons rfl (fun K hK => ?_) AllReadyH.nil; go_simp; go_at_call 40; refine (clone_pr (A := fun _ => False) _ l _ (H.out.ext (E0.trans (Ext.drew (Ext.refl _)))) (by omega)).mono ?_; rintro e w2 ⟨A2, c2, rfl, O2, E2⟩; (try dsimp only); refine hK.out _ _ (Mod.of_ext (Ext.trans (Ext.drew (Ext.refl W)) E2)) (fun hHeld => ?_); clear hK K; (try simp only [Act.put]); (try simp only [List.getElem_toArray]); (try simp only [List.getElem_cons_succ]); (try simp only [List.getElem_cons_zero]); (try simp only [List.setIfInBounds_toArray]); (try simp only [List.set_cons_succ]); (try simp only [List.set_cons_zero]))
  (refine wpAnyH_take (i := 5) (v := ?_) rfl (by kernel_rfl) (by kernel_rfl) (by kernel_rfl) (fun _ _ _ h => h) (Or.inl ⟨by rfl, ?_⟩) (by assumption) ?_; rotate_left; (focus (intro w' hSw; go_simp; try with_reducible rfl)); (try simp only [List.getElem_toArray]); (try simp only [List.getElem_cons_succ]); (try simp only [List.getElem_cons_zero]); (try simp only [Act.put]); (try simp only [List.setIfInBounds_toArray]); (try simp only [List.set_cons_succ]); (try simp only [List.set_cons_zero]))
  have Em : Ext W w2 := (Ext.drew (Ext.refl W)).trans E2
  have hr2 := hres.out.ext Em
  have kr := hr2.two
  (refine wpAnyH_ready (rs := [6]) (by kernel_rfl) (by simp) ?_; refine AllReadyH.cons rfl (fun K hK => ?_) AllReadyH.nil; go_simp; refine hK.out _ _ (((Mod.of_ext Em).set1 _).set1 _) (fun hHeld => ?_); clear hK K; (try simp only [Act.put]); (try simp only [List.getElem_toArray]); (try simp only [List.getElem_cons_succ]); (try simp only [List.getElem_cons_zero]); (try simp only [List.setIfInBounds_toArray]); (try simp only [List.set_cons_succ]); (try simp only [List.set_cons_zero]))
  refine wpAnyH_done (by kernel_rfl) ?_ _
  have BW := hr2.put2 (.slice A2 l.length c2) (.int .i64 nx)
  have hMz : Mod (fun k => k = w.heap.size + 1) W _ := ((Mod.of_ext Em).set1 (.slice A2 l.length c2) (o := 0)).set1 (.int .i64 nx) (o := 1)
  obtain ⟨q0, q1, _, _⟩ := BW.two
  go_wp2
  refine bodyPost_ret (v := .agg #[.slice A2 l.length c2, .int .i64 nx]) (by simp [results, Try.results63, go_sem, q0, q1]) rfl ?_
  have hr := O2.row
  have hdr : W.drew.heap.size = w.heap.size + 2 := by rw [HW.out]; simp
  have hM2 : Mod (fun k => k = w.heap.size + 1) w2 _ := ((Mod.refl _ w2).set1 (.slice A2 l.length c2) (o := 0)).set1 (.int .i64 nx) (o := 1)
  exact ⟨_, _, rfl, ((O2.mod hM2 (fun k hk he => by have := (hr k hk).1; omega) (fun k _ hk he => hk.1)).lower (by omega)).mono (fun k _ hk => hk.1), Mod.toExt E0 hMz (by intro k hk he; omega)⟩
end Go.Proofs.Ytmpmnikgbepphaa
