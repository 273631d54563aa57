/- great, ref, to, tty, by contract. Conditions: few processes. -/
import Derived.Test.YtcncacllaonplaaI22
namespace Go.Proofs.Ytcncacllaonplaa
open Go.RowKit Go.Kb

theorem i24 : (Try.prog.info? 24).map (·.size) = some 8 := by kernel_rfl
theorem i33 : (Try.prog.info? 33).map (·.size) = some 3 := by kernel_rfl
set_option maxHeartbeats 800000 in
theorem great_any (Ad : Option Addr) (N c : Nat) (nx s g0 : Int) (ts : Bool) (pid g : Int) (wr : Bool) (w : World) :
    Calls Try.prog 7 #[.agg #[.slice Ad N c, .int .i64 nx, .int .i64 s, .int .i64 g0, .bool ts, .int .i64 pid, .int .i64 g, .bool wr]] w fun e w' => e = .returned (.bool (decide (40 < N))) ∧ Ext w w' := by
  by_cases hl : 40 < N
  · have hl2 : (40 : Int) < (N : Int) := by omega
    go_enter Try.func7, Try.ntmps7
    go_wp2
    go_ret
    exact ⟨by rw [decide_eq_true hl]; rfl, (by repeat (first | with_reducible exact Ext.refl _ | refine Ext.drewN ?_ _ | refine Ext.drew ?_ | refine Ext.alloc ?_ _ | assumption | (refine Below.trans ?_ (by assumption)) | (refine Ext.trans ?_ (by assumption)) | (refine Below.trans ?_ (Below.mono (by assumption) (by omega)))))⟩
  · have hl2 : ¬ (40 : Int) < (N : Int) := by omega
    go_enter Try.func7, Try.ntmps7
    go_wp2
    go_ret
    exact ⟨rfl, (by repeat (first | with_reducible exact Ext.refl _ | refine Ext.drewN ?_ _ | refine Ext.drew ?_ | refine Ext.alloc ?_ _ | assumption | (refine Below.trans ?_ (by assumption)) | (refine Ext.trans ?_ (by assumption)) | (refine Below.trans ?_ (Below.mono (by assumption) (by omega)))))⟩
set_option maxRecDepth 100000 in
set_option maxHeartbeats 800000 in
theorem ref_any {A : Nat → Prop} (Ad : Option Addr) (c : Nat) (l : List Pr) (nx s g0 : Int) (ts : Bool) (pid g : Int) (wr : Bool) (w : World) (h : RdY Rp A w (.slice Ad l.length c) l) (hn : l.length ≤ 100000) :
    Calls Try.prog 17 #[.agg #[.slice Ad l.length c, .int .i64 nx, .int .i64 s, .int .i64 g0, .bool ts, .int .i64 pid, .int .i64 g, .bool wr]] w fun e w' => ∃ A' c', e = .returned (tv A' l.length c' nx) ∧ OwnS Rp 86 w.heap.size (fun _ => False) w' (.slice A' l.length c') l ∧ Ext w w' := by
  have H := Lib.hid (rdy_pr (B := fun _ => False) h)
  obtain ⟨W, hW⟩ : ∃ W, W = (w.alloc (.cells #[.slice Ad l.length c, .int .i64 nx, .int .i64 s, .int .i64 g0, .bool ts, .int .i64 pid, .int .i64 g, .bool wr] 24)).alloc (.cells #[.slice none 0 0, .int .i64 0] 49) := ⟨_, rfl⟩
  have hres := Lib.hid (show Blk W (w.heap.size + 1) 49 #[.slice none 0 0, .int .i64 0] by rw [hW]; exact Blk.at_ _ _ (by simp))
  have hbox := Lib.hid (show Blk W w.heap.size 24 #[.slice Ad l.length c, .int .i64 nx, .int .i64 s, .int .i64 g0, .bool ts, .int .i64 pid, .int .i64 g, .bool wr] by rw [hW]; exact (Blk.new w _ _).alloc _)
  have E0 : Ext w W := by rw [hW]; exact (by repeat (first | with_reducible exact Ext.refl _ | refine Ext.drewN ?_ _ | refine Ext.drew ?_ | refine Ext.alloc ?_ _ | assumption | (refine Below.trans ?_ (by assumption)) | (refine Ext.trans ?_ (by assumption)) | (refine Below.trans ?_ (Below.mono (by assumption) (by omega)))))
  have hsz := Lib.hid (show W.heap.size = w.heap.size + 2 by rw [hW]; simp)
  have HW := Lib.hid hW
  clear h hW
  go_enter Try.func17, Try.ntmps17
  go_wp2
  rw [← HW.out]
  have hz := hsz.out
  refine wp_region_held_drew (S := fun w' => Mod (fun k => k = w.heap.size + 1) W w') (by kernel_rfl) (Mod.of_ext (Ext.drew (Ext.refl _))) (fun hHeld => ?_)
  (refine wpAnyH_take (i := 1) (v := ?_) rfl (by kernel_rfl) (by kernel_rfl) (by kernel_rfl) (fun _ _ _ h => h) (Or.inl ⟨by rfl, ?_⟩) (by assumption) ?_; rotate_left; (focus (intro w' hSw; go_simp; try with_reducible rfl)); (try simp only [List.getElem_toArray]); (try simp only [List.getElem_cons_succ]); (try simp only [List.getElem_cons_zero]); (try simp only [Act.put]); (try simp only [List.setIfInBounds_toArray]); (try simp only [List.set_cons_succ]); (try simp only [List.set_cons_zero]))
  (refine wpAnyH_take (i := 2) (v := ?_) rfl (by kernel_rfl) (by kernel_rfl) (by kernel_rfl) (fun _ _ _ h => h) (Or.inl ⟨by rfl, ?_⟩) (by assumption) ?_; rotate_left; (focus (intro w' hSw; have kc := (hbox.out.mod hSw (by omega)).cell 0; go_simp; try with_reducible rfl)); (try simp only [List.getElem_toArray]); (try simp only [List.getElem_cons_succ]); (try simp only [List.getElem_cons_zero]); (try simp only [Act.put]); (try simp only [List.setIfInBounds_toArray]); (try simp only [List.set_cons_succ]); (try simp only [List.set_cons_zero]))
  (refine wpAnyH_take (i := 4) (v := ?_) rfl (by kernel_rfl) (by kernel_rfl) (by kernel_rfl) (fun _ _ _ h => h) (Or.inl ⟨by rfl, ?_⟩) (by assumption) ?_; rotate_left; (focus (intro w' hSw; go_simp; try with_reducible rfl)); (try simp only [List.getElem_toArray]); (try simp only [List.getElem_cons_succ]); (try simp only [List.getElem_cons_zero]); (try simp only [Act.put]); (try simp only [List.setIfInBounds_toArray]); (try simp only [List.set_cons_succ]); (try simp only [List.set_cons_zero]))
  (refine wpAnyH_take (i := 5) (v := ?_) rfl (by kernel_rfl) (by kernel_rfl) (by kernel_rfl) (fun _ _ _ h => h) (Or.inl ⟨by rfl, ?_⟩) (by assumption) ?_; rotate_left; (focus (intro w' hSw; have kc := (hbox.out.mod hSw (by omega)).cell 1; go_simp; try with_reducible rfl)); (try simp only [List.getElem_toArray]); (try simp only [List.getElem_cons_succ]); (try simp only [List.getElem_cons_zero]); (try simp only [Act.put]); (try simp only [List.setIfInBounds_toArray]); (try simp only [List.set_cons_succ]); (try simp only [List.set_cons_zero]))
  (refine wpAnyH_ready (rs := [0]) (by kernel_rfl) (by simp) ?_; refine AllReadyH.cons rfl (fun K hK => ?_) AllReadyH.nil; go_simp; refine hK.out _ _ (Mod.of_ext (Ext.alloc (Ext.drew (Ext.refl W)) _)) (fun hHeld => ?_); clear hK K; (try simp only [Act.put]); (try simp only [List.getElem_toArray]); (try simp only [List.getElem_cons_succ]); (try simp only [List.getElem_cons_zero]); (try simp only [List.setIfInBounds_toArray]); (try simp only [List.set_cons_succ]); (try simp only [List.set_cons_zero]))
  have E1 : Ext W (W.drew.alloc (.cells #[] 86)) := (Ext.drew (Ext.refl W)).alloc _
  refine wpAnyH_ready (rs := [3]) (by kernel_rfl) (by simp) ?_
  refine AllReadyH.cons rfl (fun K hK => ?_) AllReadyH.nil
  refine step_app0 (e := Rp) (A := fun _ => False) (n := w.heap.size + 2) rfl (.tmp 3) (.tmp 5) rfl Try.underlying22 info_rp rfl (Blk.at_ _ _ (by simpa using hz)) rfl (H.out.ext (E0.trans E1)) rfl (fun _ _ h => h.elim) (by simp [maxLen]; omega) (by omega) ?_
  intro A1 c1 w1 o1 M1 D1
  have E2 : Ext W w1 := Below.trans E1 (D1.mono (by omega))
  refine hK.out _ _ (Mod.of_ext E2) (fun hHeld => ?_)
  clear hK K
  (try simp only [List.getElem_toArray]); (try simp only [List.getElem_cons_succ]); (try simp only [List.getElem_cons_zero]); (try simp only [Act.put]); (try simp only [List.setIfInBounds_toArray]); (try simp only [List.set_cons_succ]); (try simp only [List.set_cons_zero])
  clear M1 D1
  (refine wpAnyH_take (i := 6) (v := ?_) rfl (by kernel_rfl) (by kernel_rfl) (by kernel_rfl) (fun _ _ _ h => h) (Or.inl ⟨by rfl, ?_⟩) (by assumption) ?_; rotate_left; (focus (intro w' hSw; go_simp; try with_reducible rfl)); (try simp only [List.getElem_toArray]); (try simp only [List.getElem_cons_succ]); (try simp only [List.getElem_cons_zero]); (try simp only [Act.put]); (try simp only [List.setIfInBounds_toArray]); (try simp only [List.set_cons_succ]); (try simp only [List.set_cons_zero]))
  have hr1 := hres.out.ext E2
  have kr := hr1.two
  (refine wpAnyH_ready (rs := [7]) (by kernel_rfl) (by simp) ?_; refine AllReadyH.cons rfl (fun K hK => ?_) AllReadyH.nil; go_simp; refine hK.out _ _ (((Mod.of_ext E2).set1 _).set1 _) (fun hHeld => ?_); clear hK K; (try simp only [Act.put]); (try simp only [List.getElem_toArray]); (try simp only [List.getElem_cons_succ]); (try simp only [List.getElem_cons_zero]); (try simp only [List.setIfInBounds_toArray]); (try simp only [List.set_cons_succ]); (try simp only [List.set_cons_zero]))
  refine wpAnyH_done (by kernel_rfl) ?_ _
  have hM7 : Mod (fun k => k = w.heap.size + 1) w1 _ := ((Mod.refl _ w1).set1 (.slice A1 l.length c1) (o := 0)).set1 (.int .i64 nx) (o := 1)
  obtain ⟨q0, q1, _, _⟩ := (hr1.put2 (.slice A1 l.length c1) (.int .i64 nx)).two
  have hrw := Lib.hid o1.row
  have o1 := Lib.hid o1
  clear hz
  go_wp2
  refine bodyPost_ret (v := tv A1 l.length c1 nx) (by simp [results, Try.results17, go_sem, q0, q1]) rfl ?_
  have hz := hsz.out
  exact ⟨A1, c1, rfl, (o1.out.mod hM7 (fun k hk he => by have := (hrw.out k hk).1; omega) (fun k _ hk _ => hk)).lower (by omega), Mod.toExt (E0.trans E2) hM7 (by intro k hk he; omega)⟩
set_option maxRecDepth 100000 in
set_option maxHeartbeats 800000 in
theorem to_world {A : Nat → Prop} (Ad : Option Addr) (c : Nat) (l : List Pr) (nx s g0 : Int) (ts : Bool) (pid g : Int) (wr : Bool) (w : World) (h : RdY Rp A w (.slice Ad l.length c) l) (hn : l.length ≤ 100000) :
    Calls Try.prog 8 #[.agg #[.slice Ad l.length c, .int .i64 nx, .int .i64 s, .int .i64 g0, .bool ts, .int .i64 pid, .int .i64 g, .bool wr]] w fun e w' => ∃ A' c', e = .returned (tv A' l.length c' nx) ∧ OwnS Rp 40 w.heap.size (fun _ => False) w' (.slice A' l.length c') l ∧ Ext w w' := by
  have H := Lib.hid (rdy_pr (B := fun _ => False) h)
  obtain ⟨W, hW⟩ : ∃ W, W = (w.alloc (.cells #[.slice Ad l.length c, .int .i64 nx, .int .i64 s, .int .i64 g0, .bool ts, .int .i64 pid, .int .i64 g, .bool wr] 24)).alloc (.cells #[.slice none 0 0, .int .i64 0] 28) := ⟨_, rfl⟩
  have hres := Lib.hid (show Blk W (w.heap.size + 1) 28 #[.slice none 0 0, .int .i64 0] by rw [hW]; exact Blk.at_ _ _ (by simp))
  have hbox := Lib.hid (show Blk W w.heap.size 24 #[.slice Ad l.length c, .int .i64 nx, .int .i64 s, .int .i64 g0, .bool ts, .int .i64 pid, .int .i64 g, .bool wr] by rw [hW]; exact (Blk.new w _ _).alloc _)
  have E0 : Ext w W := by rw [hW]; exact (by repeat (first | with_reducible exact Ext.refl _ | refine Ext.drewN ?_ _ | refine Ext.drew ?_ | refine Ext.alloc ?_ _ | assumption | (refine Below.trans ?_ (by assumption)) | (refine Ext.trans ?_ (by assumption)) | (refine Below.trans ?_ (Below.mono (by assumption) (by omega)))))
  have hsz := Lib.hid (show W.heap.size = w.heap.size + 2 by rw [hW]; simp)
  have HW := Lib.hid hW
  clear h hW
  go_enter Try.func8, Try.ntmps8
  go_wp2_with fail
  rw [← HW.out]
  go_wp2_with (refine wpList_load_row rfl 24 _ rfl _ rfl 24 _ _ _ hbox.out Try.underlying24 rfl i24 ?_)
  refine (ref_any (A := fun _ => False) Ad c l nx s g0 ts pid g wr W (H.out.ext E0) hn).mono ?_
  rintro e w1 ⟨A1, c1, rfl, O1, E1⟩
  have H1 := Lib.hid O1.y
  clear O1
  go_wp2_with fail
  refine (to_any (A := fun _ => True) A1 c1 l nx w1 (H1.out.mono fun _ _ _ => trivial) hn).mono ?_
  rintro e w2 ⟨A2, c2, rfl, O2, E2⟩
  have E12 := E1.trans E2
  have kr := (hres.out.ext E12).two
  have hM7 : Mod (fun k => k = w.heap.size + 1) w2 _ := ((Mod.refl _ w2).set1 (.slice A2 l.length c2) (o := 0)).set1 (.int .i64 nx) (o := 1)
  obtain ⟨q0, q1, _, _⟩ := ((hres.out.ext E12).put2 (.slice A2 l.length c2) (.int .i64 nx)).two
  have hrw := Lib.hid O2.row
  have O2 := Lib.hid O2
  go_wp2
  refine bodyPost_ret (v := tv A2 l.length c2 nx) (by simp [results, Try.results8, go_sem, q0, q1]) rfl ?_
  have hz := hsz.out
  have hz1 := E1.size
  exact ⟨A2, c2, rfl, (O2.out.mod hM7 (fun k hk he => by have := (hrw.out k hk).1; omega) (fun k _ hk _ => hk)).lower (by omega), Mod.toExt (E0.trans E12) hM7 (by intro k hk he; omega)⟩
set_option maxHeartbeats 800000 in
theorem tty_any (Ad : Option Addr) (N c : Nat) (nx s g0 : Int) (ts : Bool) (pid g : Int) (wr : Bool) (w : World) :
    Calls Try.prog 10 #[.agg #[.slice Ad N c, .int .i64 nx, .int .i64 s, .int .i64 g0, .bool ts, .int .i64 pid, .int .i64 g, .bool wr]] w fun e w' => e = .returned (.agg #[.int .i64 s, .int .i64 g0, .bool ts]) ∧ Ext w w' := by
  go_enter Try.func10, Try.ntmps10
  go_wp2
  refine bodyPost_ret (v := .agg #[.int .i64 s, .int .i64 g0, .bool ts]) (by simp [results, Try.results10, go_sem]) rfl ?_
  exact ⟨rfl, (by repeat (first | with_reducible exact Ext.refl _ | refine Ext.drewN ?_ _ | refine Ext.drew ?_ | refine Ext.alloc ?_ _ | assumption | (refine Below.trans ?_ (by assumption)) | (refine Ext.trans ?_ (by assumption)) | (refine Below.trans ?_ (Below.mono (by assumption) (by omega)))))⟩
end Go.Proofs.Ytcncacllaonplaa
