/- Written by chain.py of AB20 BB20[-live_get] CB20 DB20 EB20[RSetPost,rset_any]. No condition. -/
import Derived.Test.YteljobleojhgmaaGreatSA21
namespace Go.Proofs.YteljobleojhgmaaGreat
open Go.RowKit Go.Kb

set_option maxRecDepth 100000 in
set_option maxHeartbeats 800000 in
theorem rcopy_any {A : Nat → Prop} (Ad : Option Addr) (c : Nat) (l : List Pr) (nx : Int) (w : World) (h : RdY Rp A w (.slice Ad l.length c) l) (hn : l.length ≤ 100000) :
    Calls Tryz.prog 94 #[tv Ad l.length c nx] w fun e w' => ∃ A' c', e = .returned (tv A' l.length c' nx) ∧ OwnS Rp 64 w.heap.size (fun _ => False) w' (.slice A' l.length c') l ∧ Ext w w' := by
  have H := Lib.hid (rdy_pr (B := fun _ => False) h)
  obtain ⟨W, hW⟩ : ∃ W, W = (w.alloc (.cells #[.slice Ad l.length c, .int .i64 nx] 33)).alloc (.cells #[.slice none 0 0, .int .i64 0] 33) := ⟨_, rfl⟩
  have hres := Lib.hid (show Blk W (w.heap.size + 1) 33 #[.slice none 0 0, .int .i64 0] by rw [hW]; exact Blk.at_ _ _ (by simp))
  have hbox := Lib.hid (show Blk W w.heap.size 33 #[.slice Ad l.length c, .int .i64 nx] by rw [hW]; exact (Blk.new w _ _).alloc _)
  have E0 : Ext w W := by rw [hW]; exact (by repeat (first | with_reducible exact Ext.refl _ | refine Ext.drewN ?_ _ | refine Ext.drew ?_ | refine Ext.alloc ?_ _ | assumption | (refine Below.trans ?_ (by assumption)) | (refine Ext.trans ?_ (by assumption)) | (refine Below.trans ?_ (Below.mono (by assumption) (by omega)))))
  have hsz := Lib.hid (show W.heap.size = w.heap.size + 2 by rw [hW]; simp)
  have HW := Lib.hid hW
  clear h hW
  go_enter Tryz.func94, Tryz.ntmps94
  go_wp2
  rw [← HW.out]
  have hz := hsz.out
  refine wp_region_held_drew (S := fun w' => Mod (fun k => k = w.heap.size + 1) W w') (by kernel_rfl) (Mod.of_ext (Ext.drew (Ext.refl _))) (fun hHeld => ?_)
  (refine wpAnyH_take (i := 1) (v := ?_) rfl (by kernel_rfl) (by kernel_rfl) (by kernel_rfl) (fun _ _ _ h => h) (Or.inl ⟨by rfl, ?_⟩) (by assumption) ?_; rotate_left; (focus (intro w' hSw; go_simp; try with_reducible rfl)); (try simp only [List.getElem_toArray]); (try simp only [List.getElem_cons_succ]); (try simp only [List.getElem_cons_zero]); (try simp only [Act.put]); (try simp only [List.setIfInBounds_toArray]); (try simp only [List.set_cons_succ]); (try simp only [List.set_cons_zero]))
  (refine wpAnyH_take (i := 2) (v := ?_) rfl (by kernel_rfl) (by kernel_rfl) (by kernel_rfl) (fun _ _ _ h => h) (Or.inl ⟨by rfl, ?_⟩) (by assumption) ?_; rotate_left; (focus (intro w' hSw; have kc := (hbox.out.mod hSw (by omega)).two; go_simp; try with_reducible rfl)); (try simp only [List.getElem_toArray]); (try simp only [List.getElem_cons_succ]); (try simp only [List.getElem_cons_zero]); (try simp only [Act.put]); (try simp only [List.setIfInBounds_toArray]); (try simp only [List.set_cons_succ]); (try simp only [List.set_cons_zero]))
  (refine wpAnyH_take (i := 4) (v := ?_) rfl (by kernel_rfl) (by kernel_rfl) (by kernel_rfl) (fun _ _ _ h => h) (Or.inl ⟨by rfl, ?_⟩) (by assumption) ?_; rotate_left; (focus (intro w' hSw; go_simp; try with_reducible rfl)); (try simp only [List.getElem_toArray]); (try simp only [List.getElem_cons_succ]); (try simp only [List.getElem_cons_zero]); (try simp only [Act.put]); (try simp only [List.setIfInBounds_toArray]); (try simp only [List.set_cons_succ]); (try simp only [List.set_cons_zero]))
  (refine wpAnyH_take (i := 5) (v := ?_) rfl (by kernel_rfl) (by kernel_rfl) (by kernel_rfl) (fun _ _ _ h => h) (Or.inl ⟨by rfl, ?_⟩) (by assumption) ?_; rotate_left; (focus (intro w' hSw; have kc := (hbox.out.mod hSw (by omega)).two; go_simp; try with_reducible rfl)); (try simp only [List.getElem_toArray]); (try simp only [List.getElem_cons_succ]); (try simp only [List.getElem_cons_zero]); (try simp only [Act.put]); (try simp only [List.setIfInBounds_toArray]); (try simp only [List.set_cons_succ]); (try simp only [List.set_cons_zero]))
  (refine wpAnyH_ready (rs := [0]) (by kernel_rfl) (by simp) ?_; refine AllReadyH.cons rfl (fun K hK => ?_) AllReadyH.nil; go_simp; refine hK.out _ _ (Mod.of_ext (Ext.alloc (Ext.drew (Ext.refl W)) _)) (fun hHeld => ?_); clear hK K; (try simp only [Act.put]); (try simp only [List.getElem_toArray]); (try simp only [List.getElem_cons_succ]); (try simp only [List.getElem_cons_zero]); (try simp only [List.setIfInBounds_toArray]); (try simp only [List.set_cons_succ]); (try simp only [List.set_cons_zero]))
  have E1 : Ext W (W.drew.alloc (.cells #[] 64)) := (Ext.drew (Ext.refl W)).alloc _
  refine wpAnyH_ready (rs := [3]) (by kernel_rfl) (by simp) ?_
  refine AllReadyH.cons rfl (fun K hK => ?_) AllReadyH.nil
  refine step_app0 (e := Rp) (A := fun _ => False) (n := w.heap.size + 2) rfl (.tmp 3) (.tmp 5) rfl Tryz.underlying22 info_rp rfl (Blk.at_ _ _ (by simpa using hz)) rfl (H.out.ext (E0.trans E1)) rfl (fun _ _ h => h.elim) (by simp [maxLen]; omega) (by omega) ?_
  intro A1 c1 w1 o1 M1 D1
  have E2 : Ext W w1 := Below.trans E1 (D1.mono (by omega))
  refine hK.out _ _ (Mod.of_ext E2) (fun hHeld => ?_)
  clear hK K
  (try simp only [List.getElem_toArray]); (try simp only [List.getElem_cons_succ]); (try simp only [List.getElem_cons_zero]); (try simp only [Act.put]); (try simp only [List.setIfInBounds_toArray]); (try simp only [List.set_cons_succ]); (try simp only [List.set_cons_zero])
  clear M1 D1
  (refine wpAnyH_take (i := 6) (v := ?_) rfl (by kernel_rfl) (by kernel_rfl) (by kernel_rfl) (fun _ _ _ h => h) (Or.inl ⟨by rfl, ?_⟩) (by assumption) ?_; rotate_left; (focus (intro w' hSw; go_simp; try with_reducible rfl)); (try simp only [List.getElem_toArray]); (try simp only [List.getElem_cons_succ]); (try simp only [List.getElem_cons_zero]); (try simp only [Act.put]); (try simp only [List.setIfInBounds_toArray]); (try simp only [List.set_cons_succ]); (try simp only [List.set_cons_zero]))
  have hr1 := hres.out.ext E2
  have kr := hr1.two
  (refine wpAnyH_ready (rs := [7]) (by kernel_rfl) (by simp) ?_; refine AllReadyH.cons rfl (fun K hK => ?_) AllReadyH.nil; go_simp; refine hK.out _ _ (((Mod.of_ext E2).set1 _).set1 _) (fun hHeld => ?_); clear hK K; (try simp only [Act.put]); (try simp only [List.getElem_toArray]); (try simp only [List.getElem_cons_succ]); (try simp only [List.getElem_cons_zero]); (try simp only [List.setIfInBounds_toArray]); (try simp only [List.set_cons_succ]); (try simp only [List.set_cons_zero]))
  refine wpAnyH_done (by kernel_rfl) ?_ _
  have hM7 : Mod (fun k => k = w.heap.size + 1) w1 _ := ((Mod.refl _ w1).set1 (.slice A1 l.length c1) (o := 0)).set1 (.int .i64 nx) (o := 1)
  obtain ⟨q0, q1, _, _⟩ := (hr1.put2 (.slice A1 l.length c1) (.int .i64 nx)).two
  have hrw := Lib.hid o1.row
  have o1 := Lib.hid o1
  clear hz
  go_wp2
  refine bodyPost_ret (v := tv A1 l.length c1 nx) (by simp [results, Tryz.results94, go_sem, q0, q1]) rfl ?_
  have hz := hsz.out
  exact ⟨A1, c1, rfl, (o1.out.mod hM7 (fun k hk he => by have := (hrw.out k hk).1; omega) (fun k _ hk _ => hk)).lower (by omega), Mod.toExt (E0.trans E2) hM7 (by intro k hk he; omega)⟩
set_option maxRecDepth 100000 in
set_option maxHeartbeats 800000 in
theorem place_any {A : Nat → Prop} (Ad : Option Addr) (c : Nat) (l : List Pr) (nx pid : Int) (w : World) (h : RdY Rp A w (.slice Ad l.length c) l) :
    Calls Tryz.prog 89 #[tv Ad l.length c nx, .int .i64 pid] w fun e w' => e = .returned (.int .i64 (idxL (fun p => p.pid == pid) l)) ∧ Ext w w' := by
  have H := Lib.hid (rdy_pr (B := fun _ => False) h)
  obtain ⟨_, _, hv, hc1, hc2⟩ := h.shape
  simp only [Value.slice.injEq] at hv
  obtain ⟨-, -, rfl⟩ := hv
  obtain ⟨N, hN⟩ : ∃ N, l.length = N := ⟨_, rfl⟩
  rw [hN] at H hc1 ⊢
  have HN := Lib.hid hN
  clear h hN
  go_enter Tryz.func89, Tryz.ntmps89
  go_wp2
  go_loopw [10] (fun i wr => ∃ m : Nat, m ≤ N ∧ i = .int .i64 m ∧ Hid (∀ p ∈ l.take m, (p.pid == pid) = false) ∧ Ext w wr) (fun i _ => N - (intOf i).toNat)
  case atStart => exact ⟨0, Nat.zero_le _, rfl, Lib.hid (by simp), (by repeat (first | with_reducible exact Ext.refl _ | refine Ext.drewN ?_ _ | refine Ext.drew ?_ | refine Ext.alloc ?_ _ | assumption | (refine Below.trans ?_ (by assumption)) | (refine Ext.trans ?_ (by assumption)) | (refine Below.trans ?_ (Below.mono (by assumption) (by omega)))))⟩
  case round =>
    obtain ⟨m, hm, rfl, HD, hE⟩ := hrel
    by_cases hlt : m < N
    · obtain ⟨b, off, p, rfl, hd, hok, hcell⟩ := pr_at (H.out.ext hE) hlt
      cases hp : (p.pid == pid)
      · have HP := Lib.hid hp
        go_wp2_with (first
          | (refine wpList_load_mid rfl 64 _ rfl b (off + m * 43) rfl p.cells _ hcell.out Tryz.underlying64 rfl (i43r' hok) ?_)
          | ((refine wpList_store_A rfl 64 _ _ rfl (wr.heap.size) _ rfl rfl 64 _ (zero_rowR wr _ rfl) (by rw [List.size_toArray]; exact i43r' hok) (Eq.trans (b := 43) (by rfl) (Eq.symm (show (p).cells.toArray.size = 43 from Pr.size hok))) (Pr.one hok) ?_); intro w4 H2 E4; have E4 : Ext wr w4 := E4 wr.heap.size wr ((Ext.refl wr).alloc _) (Nat.le_refl _); have c0 := (prAt_blk hok H2).c0))
        go_roundw
        case rel => exact ⟨m + 1, by omega, by go_num, Lib.hid (by
          rw [List.take_add_one, hd.out]
          intro q hq
          rcases List.mem_append.1 hq with h | h
          · exact HD.out q h
          · simp at h; rw [h]; exact HP.out), hE.trans E4⟩
        case measure => simp [intOf]; omega
      · have HP := Lib.hid (idx_some hd.out HD.out hp)
        clear hd
        go_wp2_with (first
          | (refine wpList_load_mid rfl 64 _ rfl b (off + m * 43) rfl p.cells _ hcell.out Tryz.underlying64 rfl (i43r' hok) ?_)
          | ((refine wpList_store_A rfl 64 _ _ rfl (wr.heap.size) _ rfl rfl 64 _ (zero_rowR wr _ rfl) (by rw [List.size_toArray]; exact i43r' hok) (Eq.trans (b := 43) (by rfl) (Eq.symm (show (p).cells.toArray.size = 43 from Pr.size hok))) (Pr.one hok) ?_); intro w4 H2 E4; have E4 : Ext wr w4 := E4 wr.heap.size wr ((Ext.refl wr).alloc _) (Nat.le_refl _); have c0 := (prAt_blk hok H2).c0))
        go_ret
        exact ⟨by rw [HP.out]; rfl, hE.trans E4⟩
    · have HP := Lib.hid (idx_none (f := fun p => p.pid == pid) (l := l) (fun p hp => HD.out p (by rw [List.take_of_length_le (by have := HN.out; omega)]; exact hp)))
      go_wp2
      go_ret
      exact ⟨by rw [HP.out]; rfl, hE⟩
set_option maxRecDepth 100000 in
set_option maxHeartbeats 800000 in
theorem rright_any {A : Nat → Prop} (Ad : Option Addr) (c : Nat) (l : List Pr) (nx : Int) (w : World) (h : RdY Rp A w (.slice Ad l.length c) l) :
    Calls Tryz.prog 11 #[tv Ad l.length c nx] w fun e w' => e = .returned (.bool (rightL l nx)) ∧ Ext w w' := by
  have H := Lib.hid (rdy_pr (B := fun _ => False) h)
  obtain ⟨_, _, hv, hc1, hc2⟩ := h.shape
  simp only [Value.slice.injEq] at hv
  obtain ⟨-, -, rfl⟩ := hv
  obtain ⟨n, hn⟩ : ∃ n, l.length = n := ⟨_, rfl⟩
  have hR : rightL l nx = (decide (1 ≤ nx) && (decide (n ≤ 32) && rise nx 0 l)) := by rw [← hn]; rfl
  rw [hn] at H hc1 ⊢
  have HN := Lib.hid hn
  have HR := Lib.hid hR
  clear h hn hR
  by_cases h1 : nx < 1
  · go_enter Tryz.func11, Tryz.ntmps11
    go_wp2
    go_ret
    exact ⟨by rw [HR.out, decide_eq_false (by omega)]; rfl, (by repeat (first | with_reducible exact Ext.refl _ | refine Ext.drewN ?_ _ | refine Ext.drew ?_ | refine Ext.alloc ?_ _ | assumption | (refine Below.trans ?_ (by assumption)) | (refine Ext.trans ?_ (by assumption)) | (refine Below.trans ?_ (Below.mono (by assumption) (by omega)))))⟩
  by_cases h2 : 32 < n
  · have h3 : (32 : Int) < n := by omega
    go_enter Tryz.func11, Tryz.ntmps11
    go_wp2
    go_ret
    exact ⟨by rw [HR.out, decide_eq_true (show 1 ≤ nx by omega), decide_eq_false (show ¬ n ≤ 32 by omega)]; rfl, (by repeat (first | with_reducible exact Ext.refl _ | refine Ext.drewN ?_ _ | refine Ext.drew ?_ | refine Ext.alloc ?_ _ | assumption | (refine Below.trans ?_ (by assumption)) | (refine Ext.trans ?_ (by assumption)) | (refine Below.trans ?_ (Below.mono (by assumption) (by omega)))))⟩
  have h3 : ¬ ((32 : Int) < n) := by omega
  have HR2 : Hid (rightL l nx = rise nx 0 l) := Lib.hid (by rw [HR.out, decide_eq_true (show 1 ≤ nx by omega), decide_eq_true (show n ≤ 32 by omega)]; rfl)
  clear HR
  have hbox := Lib.hid (Blk.new w 33 #[.slice Ad n c, .int .i64 nx])
  have E0 : Ext w (w.alloc (.cells #[.slice Ad n c, .int .i64 nx] 33)) := (by repeat (first | with_reducible exact Ext.refl _ | refine Ext.drewN ?_ _ | refine Ext.drew ?_ | refine Ext.alloc ?_ _ | assumption | (refine Below.trans ?_ (by assumption)) | (refine Ext.trans ?_ (by assumption)) | (refine Below.trans ?_ (Below.mono (by assumption) (by omega)))))
  go_enter Tryz.func11, Tryz.ntmps11
  go_wp2
  go_loopw [17] (fun i wr => ∃ (m : Nat) (last : Int), m ≤ n ∧ i = .int .i64 m ∧ Hid (rise nx 0 l = rise nx last (l.drop m)) ∧ Hid ((m = 0 ∧ last = 0) ∨ ∃ k q, m = k + 1 ∧ l[k]? = some q ∧ last = q.pid ∧ 1 ≤ q.pid) ∧ Hid (Blk wr w.heap.size 33 #[.slice Ad n c, .int .i64 nx]) ∧ Ext w wr) (fun i _ => n - (intOf i).toNat)
  case atStart => exact ⟨0, 0, Nat.zero_le _, rfl, Lib.hid rfl, Lib.hid (.inl ⟨rfl, rfl⟩), hbox, E0⟩
  case round =>
    clear hbox E0
    obtain ⟨m, last, hm, rfl, HD, HL, hbox, hE⟩ := hrel
    by_cases hlt : m < n
    · obtain ⟨b, off, p, rfl, hd, hok, hcell⟩ := pr_at (H.out.ext hE) hlt
      have hsp : l.drop m = p :: l.drop (m + 1) := by
        obtain ⟨hl, hx⟩ := List.getElem?_eq_some_iff.1 hd.out
        rw [List.drop_eq_getElem_cons hl, hx]
      have HS : Hid (rise nx last (l.drop m) = (decide (last < p.pid) && (decide (p.pid < nx) && rise nx p.pid (l.drop (m + 1))))) := Lib.hid (by rw [hsp]; rfl)
      clear hsp
      obtain ⟨n4, hn4⟩ : ∃ n4, wr.heap.size = n4 := ⟨_, rfl⟩
      have hlast : 0 ≤ last := by rcases HL.out with ⟨_, h⟩ | ⟨_, q, _, _, h, h2⟩ <;> omega
      go_wp2_with (first
        | (refine wpList_load_mid rfl 64 _ rfl b (off + m * 43) rfl p.cells _ hcell.out Tryz.underlying64 rfl (i43r' hok) ?_)
        | ((refine wpList_store_A rfl 64 _ _ rfl (n4) _ rfl rfl 64 _ (zero_rowR wr n4 hn4) (by rw [List.size_toArray]; exact i43r' hok) (Eq.trans (b := 43) (by rfl) (Eq.symm (show (p).cells.toArray.size = 43 from Pr.size hok))) (Pr.one hok) ?_); intro w4 H2 E4; have Er : Ext wr w4 := E4 wr.heap.size wr ((Ext.refl wr).alloc _) (by omega); have c0 := (prAt_blk hok H2).c0; clear E4))
      have hb := Lib.hid (hbox.out.ext Er)
      have E04 := hE.trans Er
      clear hcell
      by_cases k1 : p.pid < 1
      · refine wp_region_held_drew (S := fun w' => Ext w4 w') (by kernel_rfl) (Ext.drew (Ext.refl _)) (fun hHeld => ?_)
        (refine wpAnyH_take (i := 0) (v := ?_) rfl (by kernel_rfl) (by kernel_rfl) (by kernel_rfl) (fun _ _ _ h => h) (Or.inl ⟨by rfl, ?_⟩) (by assumption) ?_; rotate_left; (focus (intro w' hSw; go_simp; try with_reducible rfl)); (try simp only [List.getElem_toArray]); (try simp only [List.getElem_cons_succ]); (try simp only [List.getElem_cons_zero]); (try simp only [Act.put]); (try simp only [List.setIfInBounds_toArray]); (try simp only [List.set_cons_succ]); (try simp only [List.set_cons_zero]))
        (refine wpAnyH_take (i := 1) (v := ?_) rfl (by kernel_rfl) (by kernel_rfl) (by kernel_rfl) (fun _ _ _ h => h) (Or.inl ⟨by rfl, ?_⟩) (by assumption) ?_; rotate_left; (focus (intro w' hSw; have kc := cell_ext hSw c0; go_simp; try with_reducible rfl)); (try simp only [List.getElem_toArray]); (try simp only [List.getElem_cons_succ]); (try simp only [List.getElem_cons_zero]); (try simp only [Act.put]); (try simp only [List.setIfInBounds_toArray]); (try simp only [List.set_cons_succ]); (try simp only [List.set_cons_zero]))
        (refine wpAnyH_take (i := 2) (v := ?_) rfl (by kernel_rfl) (by kernel_rfl) (by kernel_rfl) (fun _ _ _ h => h) (Or.inl ⟨by rfl, ?_⟩) (by assumption) ?_; rotate_left; (focus (intro w' hSw; go_simp; try with_reducible rfl)); (try simp only [List.getElem_toArray]); (try simp only [List.getElem_cons_succ]); (try simp only [List.getElem_cons_zero]); (try simp only [Act.put]); (try simp only [List.setIfInBounds_toArray]); (try simp only [List.set_cons_succ]); (try simp only [List.set_cons_zero]))
        (refine wpAnyH_take (i := 3) (v := ?_) rfl (by kernel_rfl) (by kernel_rfl) (by kernel_rfl) (fun _ _ _ h => h) (Or.inl ⟨by rfl, ?_⟩) (by assumption) ?_; rotate_left; (focus (intro w' hSw; go_simp; try with_reducible rfl)); (try simp only [List.getElem_toArray]); (try simp only [List.getElem_cons_succ]); (try simp only [List.getElem_cons_zero]); (try simp only [Act.put]); (try simp only [List.setIfInBounds_toArray]); (try simp only [List.set_cons_succ]); (try simp only [List.set_cons_zero]))
        (refine wpAnyH_take (i := 4) (v := undef) rfl (by kernel_rfl) (by kernel_rfl) (by kernel_rfl) (fun _ _ _ h => h) (Or.inr ⟨by rfl, rfl⟩) (by assumption) ?_; (try simp only [List.getElem_toArray]); (try simp only [List.getElem_cons_succ]); (try simp only [List.getElem_cons_zero]); (try simp only [Act.put]); (try simp only [List.setIfInBounds_toArray]); (try simp only [List.set_cons_succ]); (try simp only [List.set_cons_zero]))
        (refine wpAnyH_take (i := 5) (v := undef) rfl (by kernel_rfl) (by kernel_rfl) (by kernel_rfl) (fun _ _ _ h => h) (Or.inr ⟨by rfl, rfl⟩) (by assumption) ?_; (try simp only [List.getElem_toArray]); (try simp only [List.getElem_cons_succ]); (try simp only [List.getElem_cons_zero]); (try simp only [Act.put]); (try simp only [List.setIfInBounds_toArray]); (try simp only [List.set_cons_succ]); (try simp only [List.set_cons_zero]))
        (refine wpAnyH_take (i := 6) (v := undef) rfl (by kernel_rfl) (by kernel_rfl) (by kernel_rfl) (fun _ _ _ h => h) (Or.inr ⟨by rfl, rfl⟩) (by assumption) ?_; (try simp only [List.getElem_toArray]); (try simp only [List.getElem_cons_succ]); (try simp only [List.getElem_cons_zero]); (try simp only [Act.put]); (try simp only [List.setIfInBounds_toArray]); (try simp only [List.set_cons_succ]); (try simp only [List.set_cons_zero]))
        (refine wpAnyH_take (i := 7) (v := undef) rfl (by kernel_rfl) (by kernel_rfl) (by kernel_rfl) (fun _ _ _ h => h) (Or.inr ⟨by rfl, rfl⟩) (by assumption) ?_; (try simp only [List.getElem_toArray]); (try simp only [List.getElem_cons_succ]); (try simp only [List.getElem_cons_zero]); (try simp only [Act.put]); (try simp only [List.setIfInBounds_toArray]); (try simp only [List.set_cons_succ]); (try simp only [List.set_cons_zero]))
        (refine wpAnyH_take (i := 8) (v := undef) rfl (by kernel_rfl) (by kernel_rfl) (by kernel_rfl) (fun _ _ _ h => h) (Or.inr ⟨by rfl, rfl⟩) (by assumption) ?_; (try simp only [List.getElem_toArray]); (try simp only [List.getElem_cons_succ]); (try simp only [List.getElem_cons_zero]); (try simp only [Act.put]); (try simp only [List.setIfInBounds_toArray]); (try simp only [List.set_cons_succ]); (try simp only [List.set_cons_zero]))
        (refine wpAnyH_take (i := 9) (v := ?_) rfl (by kernel_rfl) (by kernel_rfl) (by kernel_rfl) (fun _ _ _ h => h) (Or.inl ⟨by rfl, ?_⟩) (by assumption) ?_; rotate_left; (focus (intro w' hSw; go_simp; try with_reducible rfl)); (try simp only [List.getElem_toArray]); (try simp only [List.getElem_cons_succ]); (try simp only [List.getElem_cons_zero]); (try simp only [Act.put]); (try simp only [List.setIfInBounds_toArray]); (try simp only [List.set_cons_succ]); (try simp only [List.set_cons_zero]))
        (refine wpAnyH_take (i := 10) (v := ?_) rfl (by kernel_rfl) (by kernel_rfl) (by kernel_rfl) (fun _ _ _ h => h) (Or.inl ⟨by rfl, ?_⟩) (by assumption) ?_; rotate_left; (focus (intro w' hSw; go_simp; try with_reducible rfl)); (try simp only [List.getElem_toArray]); (try simp only [List.getElem_cons_succ]); (try simp only [List.getElem_cons_zero]); (try simp only [Act.put]); (try simp only [List.setIfInBounds_toArray]); (try simp only [List.set_cons_succ]); (try simp only [List.set_cons_zero]))
        (refine wpAnyH_take (i := 11) (v := undef) rfl (by kernel_rfl) (by kernel_rfl) (by kernel_rfl) (fun _ _ _ h => h) (Or.inr ⟨by rfl, rfl⟩) (by assumption) ?_; (try simp only [List.getElem_toArray]); (try simp only [List.getElem_cons_succ]); (try simp only [List.getElem_cons_zero]); (try simp only [Act.put]); (try simp only [List.setIfInBounds_toArray]); (try simp only [List.set_cons_succ]); (try simp only [List.set_cons_zero]))
        (refine wpAnyH_take (i := 12) (v := undef) rfl (by kernel_rfl) (by kernel_rfl) (by kernel_rfl) (fun _ _ _ h => h) (Or.inr ⟨by rfl, rfl⟩) (by assumption) ?_; (try simp only [List.getElem_toArray]); (try simp only [List.getElem_cons_succ]); (try simp only [List.getElem_cons_zero]); (try simp only [Act.put]); (try simp only [List.setIfInBounds_toArray]); (try simp only [List.set_cons_succ]); (try simp only [List.set_cons_zero]))
        (refine wpAnyH_take (i := 13) (v := undef) rfl (by kernel_rfl) (by kernel_rfl) (by kernel_rfl) (fun _ _ _ h => h) (Or.inr ⟨by rfl, rfl⟩) (by assumption) ?_; (try simp only [List.getElem_toArray]); (try simp only [List.getElem_cons_succ]); (try simp only [List.getElem_cons_zero]); (try simp only [Act.put]); (try simp only [List.setIfInBounds_toArray]); (try simp only [List.set_cons_succ]); (try simp only [List.set_cons_zero]))
        (refine wpAnyH_take (i := 14) (v := undef) rfl (by kernel_rfl) (by kernel_rfl) (by kernel_rfl) (fun _ _ _ h => h) (Or.inr ⟨by rfl, rfl⟩) (by assumption) ?_; (try simp only [List.getElem_toArray]); (try simp only [List.getElem_cons_succ]); (try simp only [List.getElem_cons_zero]); (try simp only [Act.put]); (try simp only [List.setIfInBounds_toArray]); (try simp only [List.set_cons_succ]); (try simp only [List.set_cons_zero]))
        (refine wpAnyH_take (i := 15) (v := undef) rfl (by kernel_rfl) (by kernel_rfl) (by kernel_rfl) (fun _ _ _ h => h) (Or.inr ⟨by rfl, rfl⟩) (by assumption) ?_; (try simp only [List.getElem_toArray]); (try simp only [List.getElem_cons_succ]); (try simp only [List.getElem_cons_zero]); (try simp only [Act.put]); (try simp only [List.setIfInBounds_toArray]); (try simp only [List.set_cons_succ]); (try simp only [List.set_cons_zero]))
        (refine wpAnyH_take (i := 16) (v := undef) rfl (by kernel_rfl) (by kernel_rfl) (by kernel_rfl) (fun _ _ _ h => h) (Or.inr ⟨by rfl, rfl⟩) (by assumption) ?_; (try simp only [List.getElem_toArray]); (try simp only [List.getElem_cons_succ]); (try simp only [List.getElem_cons_zero]); (try simp only [Act.put]); (try simp only [List.setIfInBounds_toArray]); (try simp only [List.set_cons_succ]); (try simp only [List.set_cons_zero]))
        (refine wpAnyH_take (i := 17) (v := undef) rfl (by kernel_rfl) (by kernel_rfl) (by kernel_rfl) (fun _ _ _ h => h) (Or.inr ⟨by rfl, rfl⟩) (by assumption) ?_; (try simp only [List.getElem_toArray]); (try simp only [List.getElem_cons_succ]); (try simp only [List.getElem_cons_zero]); (try simp only [Act.put]); (try simp only [List.setIfInBounds_toArray]); (try simp only [List.set_cons_succ]); (try simp only [List.set_cons_zero]))
        (refine wpAnyH_take (i := 18) (v := undef) rfl (by kernel_rfl) (by kernel_rfl) (by kernel_rfl) (fun _ _ _ h => h) (Or.inr ⟨by rfl, rfl⟩) (by assumption) ?_; (try simp only [List.getElem_toArray]); (try simp only [List.getElem_cons_succ]); (try simp only [List.getElem_cons_zero]); (try simp only [Act.put]); (try simp only [List.setIfInBounds_toArray]); (try simp only [List.set_cons_succ]); (try simp only [List.set_cons_zero]))
        (refine wpAnyH_take (i := 19) (v := undef) rfl (by kernel_rfl) (by kernel_rfl) (by kernel_rfl) (fun _ _ _ h => h) (Or.inr ⟨by rfl, rfl⟩) (by assumption) ?_; (try simp only [List.getElem_toArray]); (try simp only [List.getElem_cons_succ]); (try simp only [List.getElem_cons_zero]); (try simp only [Act.put]); (try simp only [List.setIfInBounds_toArray]); (try simp only [List.set_cons_succ]); (try simp only [List.set_cons_zero]))
        (refine wpAnyH_take (i := 20) (v := undef) rfl (by kernel_rfl) (by kernel_rfl) (by kernel_rfl) (fun _ _ _ h => h) (Or.inr ⟨by rfl, rfl⟩) (by assumption) ?_; (try simp only [List.getElem_toArray]); (try simp only [List.getElem_cons_succ]); (try simp only [List.getElem_cons_zero]); (try simp only [Act.put]); (try simp only [List.setIfInBounds_toArray]); (try simp only [List.set_cons_succ]); (try simp only [List.set_cons_zero]))
        (refine wpAnyH_take (i := 21) (v := undef) rfl (by kernel_rfl) (by kernel_rfl) (by kernel_rfl) (fun _ _ _ h => h) (Or.inr ⟨by rfl, rfl⟩) (by assumption) ?_; (try simp only [List.getElem_toArray]); (try simp only [List.getElem_cons_succ]); (try simp only [List.getElem_cons_zero]); (try simp only [Act.put]); (try simp only [List.setIfInBounds_toArray]); (try simp only [List.set_cons_succ]); (try simp only [List.set_cons_zero]))
        (refine wpAnyH_take (i := 22) (v := undef) rfl (by kernel_rfl) (by kernel_rfl) (by kernel_rfl) (fun _ _ _ h => h) (Or.inr ⟨by rfl, rfl⟩) (by assumption) ?_; (try simp only [List.getElem_toArray]); (try simp only [List.getElem_cons_succ]); (try simp only [List.getElem_cons_zero]); (try simp only [Act.put]); (try simp only [List.setIfInBounds_toArray]); (try simp only [List.set_cons_succ]); (try simp only [List.set_cons_zero]))
        (refine wpAnyH_take (i := 23) (v := undef) rfl (by kernel_rfl) (by kernel_rfl) (by kernel_rfl) (fun _ _ _ h => h) (Or.inr ⟨by rfl, rfl⟩) (by assumption) ?_; (try simp only [List.getElem_toArray]); (try simp only [List.getElem_cons_succ]); (try simp only [List.getElem_cons_zero]); (try simp only [Act.put]); (try simp only [List.setIfInBounds_toArray]); (try simp only [List.set_cons_succ]); (try simp only [List.set_cons_zero]))
        (refine wpAnyH_take (i := 24) (v := undef) rfl (by kernel_rfl) (by kernel_rfl) (by kernel_rfl) (fun _ _ _ h => h) (Or.inr ⟨by rfl, rfl⟩) (by assumption) ?_; (try simp only [List.getElem_toArray]); (try simp only [List.getElem_cons_succ]); (try simp only [List.getElem_cons_zero]); (try simp only [Act.put]); (try simp only [List.setIfInBounds_toArray]); (try simp only [List.set_cons_succ]); (try simp only [List.set_cons_zero]))
        (refine wpAnyH_take (i := 25) (v := ?_) rfl (by kernel_rfl) (by kernel_rfl) (by kernel_rfl) (fun _ _ _ h => h) (Or.inl ⟨by rfl, ?_⟩) (by assumption) ?_; rotate_left; (focus (intro w' hSw; go_simp; try with_reducible rfl)); (try simp only [List.getElem_toArray]); (try simp only [List.getElem_cons_succ]); (try simp only [List.getElem_cons_zero]); (try simp only [Act.put]); (try simp only [List.setIfInBounds_toArray]); (try simp only [List.set_cons_succ]); (try simp only [List.set_cons_zero]))
        refine wpAnyH_done (by kernel_rfl) ?_ _
        go_wp2
        go_ret
        exact ⟨by rw [HR2.out, HD.out, HS.out, decide_eq_false (show ¬ last < p.pid by omega)]; rfl, E04.trans (Ext.drew (Ext.refl _))⟩
      by_cases k2 : nx ≤ p.pid
      · refine wp_region_held_drew (S := fun w' => Ext w4 w') (by kernel_rfl) (Ext.drew (Ext.refl _)) (fun hHeld => ?_)
        (refine wpAnyH_take (i := 0) (v := ?_) rfl (by kernel_rfl) (by kernel_rfl) (by kernel_rfl) (fun _ _ _ h => h) (Or.inl ⟨by rfl, ?_⟩) (by assumption) ?_; rotate_left; (focus (intro w' hSw; go_simp; try with_reducible rfl)); (try simp only [List.getElem_toArray]); (try simp only [List.getElem_cons_succ]); (try simp only [List.getElem_cons_zero]); (try simp only [Act.put]); (try simp only [List.setIfInBounds_toArray]); (try simp only [List.set_cons_succ]); (try simp only [List.set_cons_zero]))
        (refine wpAnyH_take (i := 1) (v := ?_) rfl (by kernel_rfl) (by kernel_rfl) (by kernel_rfl) (fun _ _ _ h => h) (Or.inl ⟨by rfl, ?_⟩) (by assumption) ?_; rotate_left; (focus (intro w' hSw; have kc := cell_ext hSw c0; go_simp; try with_reducible rfl)); (try simp only [List.getElem_toArray]); (try simp only [List.getElem_cons_succ]); (try simp only [List.getElem_cons_zero]); (try simp only [Act.put]); (try simp only [List.setIfInBounds_toArray]); (try simp only [List.set_cons_succ]); (try simp only [List.set_cons_zero]))
        (refine wpAnyH_take (i := 2) (v := ?_) rfl (by kernel_rfl) (by kernel_rfl) (by kernel_rfl) (fun _ _ _ h => h) (Or.inl ⟨by rfl, ?_⟩) (by assumption) ?_; rotate_left; (focus (intro w' hSw; go_simp; try with_reducible rfl)); (try simp only [List.getElem_toArray]); (try simp only [List.getElem_cons_succ]); (try simp only [List.getElem_cons_zero]); (try simp only [Act.put]); (try simp only [List.setIfInBounds_toArray]); (try simp only [List.set_cons_succ]); (try simp only [List.set_cons_zero]))
        (refine wpAnyH_take (i := 3) (v := ?_) rfl (by kernel_rfl) (by kernel_rfl) (by kernel_rfl) (fun _ _ _ h => h) (Or.inl ⟨by rfl, ?_⟩) (by assumption) ?_; rotate_left; (focus (intro w' hSw; go_simp; try with_reducible rfl)); (try simp only [List.getElem_toArray]); (try simp only [List.getElem_cons_succ]); (try simp only [List.getElem_cons_zero]); (try simp only [Act.put]); (try simp only [List.setIfInBounds_toArray]); (try simp only [List.set_cons_succ]); (try simp only [List.set_cons_zero]))
        (refine wpAnyH_take (i := 4) (v := ?_) rfl (by kernel_rfl) (by kernel_rfl) (by kernel_rfl) (fun _ _ _ h => h) (Or.inl ⟨by rfl, ?_⟩) (by assumption) ?_; rotate_left; (focus (intro w' hSw; go_simp; try with_reducible rfl)); (try simp only [List.getElem_toArray]); (try simp only [List.getElem_cons_succ]); (try simp only [List.getElem_cons_zero]); (try simp only [Act.put]); (try simp only [List.setIfInBounds_toArray]); (try simp only [List.set_cons_succ]); (try simp only [List.set_cons_zero]))
        (refine wpAnyH_take (i := 5) (v := ?_) rfl (by kernel_rfl) (by kernel_rfl) (by kernel_rfl) (fun _ _ _ h => h) (Or.inl ⟨by rfl, ?_⟩) (by assumption) ?_; rotate_left; (focus (intro w' hSw; have kc := cell_ext hSw c0; go_simp; try with_reducible rfl)); (try simp only [List.getElem_toArray]); (try simp only [List.getElem_cons_succ]); (try simp only [List.getElem_cons_zero]); (try simp only [Act.put]); (try simp only [List.setIfInBounds_toArray]); (try simp only [List.set_cons_succ]); (try simp only [List.set_cons_zero]))
        (refine wpAnyH_take (i := 6) (v := ?_) rfl (by kernel_rfl) (by kernel_rfl) (by kernel_rfl) (fun _ _ _ h => h) (Or.inl ⟨by rfl, ?_⟩) (by assumption) ?_; rotate_left; (focus (intro w' hSw; go_simp; try with_reducible rfl)); (try simp only [List.getElem_toArray]); (try simp only [List.getElem_cons_succ]); (try simp only [List.getElem_cons_zero]); (try simp only [Act.put]); (try simp only [List.setIfInBounds_toArray]); (try simp only [List.set_cons_succ]); (try simp only [List.set_cons_zero]))
        (refine wpAnyH_take (i := 7) (v := ?_) rfl (by kernel_rfl) (by kernel_rfl) (by kernel_rfl) (fun _ _ _ h => h) (Or.inl ⟨by rfl, ?_⟩) (by assumption) ?_; rotate_left; (focus (intro w' hSw; have kc := (hb.out.ext hSw).two; go_simp; try with_reducible rfl)); (try simp only [List.getElem_toArray]); (try simp only [List.getElem_cons_succ]); (try simp only [List.getElem_cons_zero]); (try simp only [Act.put]); (try simp only [List.setIfInBounds_toArray]); (try simp only [List.set_cons_succ]); (try simp only [List.set_cons_zero]))
        (refine wpAnyH_take (i := 8) (v := ?_) rfl (by kernel_rfl) (by kernel_rfl) (by kernel_rfl) (fun _ _ _ h => h) (Or.inl ⟨by rfl, ?_⟩) (by assumption) ?_; rotate_left; (focus (intro w' hSw; go_simp; try with_reducible rfl)); (try simp only [List.getElem_toArray]); (try simp only [List.getElem_cons_succ]); (try simp only [List.getElem_cons_zero]); (try simp only [Act.put]); (try simp only [List.setIfInBounds_toArray]); (try simp only [List.set_cons_succ]); (try simp only [List.set_cons_zero]))
        (refine wpAnyH_take (i := 9) (v := ?_) rfl (by kernel_rfl) (by kernel_rfl) (by kernel_rfl) (fun _ _ _ h => h) (Or.inl ⟨by rfl, ?_⟩) (by assumption) ?_; rotate_left; (focus (intro w' hSw; go_simp; try with_reducible rfl)); (try simp only [List.getElem_toArray]); (try simp only [List.getElem_cons_succ]); (try simp only [List.getElem_cons_zero]); (try simp only [Act.put]); (try simp only [List.setIfInBounds_toArray]); (try simp only [List.set_cons_succ]); (try simp only [List.set_cons_zero]))
        (refine wpAnyH_take (i := 10) (v := ?_) rfl (by kernel_rfl) (by kernel_rfl) (by kernel_rfl) (fun _ _ _ h => h) (Or.inl ⟨by rfl, ?_⟩) (by assumption) ?_; rotate_left; (focus (intro w' hSw; go_simp; try with_reducible rfl)); (try simp only [List.getElem_toArray]); (try simp only [List.getElem_cons_succ]); (try simp only [List.getElem_cons_zero]); (try simp only [Act.put]); (try simp only [List.setIfInBounds_toArray]); (try simp only [List.set_cons_succ]); (try simp only [List.set_cons_zero]))
        (refine wpAnyH_take (i := 11) (v := undef) rfl (by kernel_rfl) (by kernel_rfl) (by kernel_rfl) (fun _ _ _ h => h) (Or.inr ⟨by rfl, rfl⟩) (by assumption) ?_; (try simp only [List.getElem_toArray]); (try simp only [List.getElem_cons_succ]); (try simp only [List.getElem_cons_zero]); (try simp only [Act.put]); (try simp only [List.setIfInBounds_toArray]); (try simp only [List.set_cons_succ]); (try simp only [List.set_cons_zero]))
        (refine wpAnyH_take (i := 12) (v := undef) rfl (by kernel_rfl) (by kernel_rfl) (by kernel_rfl) (fun _ _ _ h => h) (Or.inr ⟨by rfl, rfl⟩) (by assumption) ?_; (try simp only [List.getElem_toArray]); (try simp only [List.getElem_cons_succ]); (try simp only [List.getElem_cons_zero]); (try simp only [Act.put]); (try simp only [List.setIfInBounds_toArray]); (try simp only [List.set_cons_succ]); (try simp only [List.set_cons_zero]))
        (refine wpAnyH_take (i := 13) (v := undef) rfl (by kernel_rfl) (by kernel_rfl) (by kernel_rfl) (fun _ _ _ h => h) (Or.inr ⟨by rfl, rfl⟩) (by assumption) ?_; (try simp only [List.getElem_toArray]); (try simp only [List.getElem_cons_succ]); (try simp only [List.getElem_cons_zero]); (try simp only [Act.put]); (try simp only [List.setIfInBounds_toArray]); (try simp only [List.set_cons_succ]); (try simp only [List.set_cons_zero]))
        (refine wpAnyH_take (i := 14) (v := undef) rfl (by kernel_rfl) (by kernel_rfl) (by kernel_rfl) (fun _ _ _ h => h) (Or.inr ⟨by rfl, rfl⟩) (by assumption) ?_; (try simp only [List.getElem_toArray]); (try simp only [List.getElem_cons_succ]); (try simp only [List.getElem_cons_zero]); (try simp only [Act.put]); (try simp only [List.setIfInBounds_toArray]); (try simp only [List.set_cons_succ]); (try simp only [List.set_cons_zero]))
        (refine wpAnyH_take (i := 15) (v := undef) rfl (by kernel_rfl) (by kernel_rfl) (by kernel_rfl) (fun _ _ _ h => h) (Or.inr ⟨by rfl, rfl⟩) (by assumption) ?_; (try simp only [List.getElem_toArray]); (try simp only [List.getElem_cons_succ]); (try simp only [List.getElem_cons_zero]); (try simp only [Act.put]); (try simp only [List.setIfInBounds_toArray]); (try simp only [List.set_cons_succ]); (try simp only [List.set_cons_zero]))
        (refine wpAnyH_take (i := 16) (v := undef) rfl (by kernel_rfl) (by kernel_rfl) (by kernel_rfl) (fun _ _ _ h => h) (Or.inr ⟨by rfl, rfl⟩) (by assumption) ?_; (try simp only [List.getElem_toArray]); (try simp only [List.getElem_cons_succ]); (try simp only [List.getElem_cons_zero]); (try simp only [Act.put]); (try simp only [List.setIfInBounds_toArray]); (try simp only [List.set_cons_succ]); (try simp only [List.set_cons_zero]))
        (refine wpAnyH_take (i := 17) (v := undef) rfl (by kernel_rfl) (by kernel_rfl) (by kernel_rfl) (fun _ _ _ h => h) (Or.inr ⟨by rfl, rfl⟩) (by assumption) ?_; (try simp only [List.getElem_toArray]); (try simp only [List.getElem_cons_succ]); (try simp only [List.getElem_cons_zero]); (try simp only [Act.put]); (try simp only [List.setIfInBounds_toArray]); (try simp only [List.set_cons_succ]); (try simp only [List.set_cons_zero]))
        (refine wpAnyH_take (i := 18) (v := undef) rfl (by kernel_rfl) (by kernel_rfl) (by kernel_rfl) (fun _ _ _ h => h) (Or.inr ⟨by rfl, rfl⟩) (by assumption) ?_; (try simp only [List.getElem_toArray]); (try simp only [List.getElem_cons_succ]); (try simp only [List.getElem_cons_zero]); (try simp only [Act.put]); (try simp only [List.setIfInBounds_toArray]); (try simp only [List.set_cons_succ]); (try simp only [List.set_cons_zero]))
        (refine wpAnyH_take (i := 19) (v := undef) rfl (by kernel_rfl) (by kernel_rfl) (by kernel_rfl) (fun _ _ _ h => h) (Or.inr ⟨by rfl, rfl⟩) (by assumption) ?_; (try simp only [List.getElem_toArray]); (try simp only [List.getElem_cons_succ]); (try simp only [List.getElem_cons_zero]); (try simp only [Act.put]); (try simp only [List.setIfInBounds_toArray]); (try simp only [List.set_cons_succ]); (try simp only [List.set_cons_zero]))
        (refine wpAnyH_take (i := 20) (v := undef) rfl (by kernel_rfl) (by kernel_rfl) (by kernel_rfl) (fun _ _ _ h => h) (Or.inr ⟨by rfl, rfl⟩) (by assumption) ?_; (try simp only [List.getElem_toArray]); (try simp only [List.getElem_cons_succ]); (try simp only [List.getElem_cons_zero]); (try simp only [Act.put]); (try simp only [List.setIfInBounds_toArray]); (try simp only [List.set_cons_succ]); (try simp only [List.set_cons_zero]))
        (refine wpAnyH_take (i := 21) (v := undef) rfl (by kernel_rfl) (by kernel_rfl) (by kernel_rfl) (fun _ _ _ h => h) (Or.inr ⟨by rfl, rfl⟩) (by assumption) ?_; (try simp only [List.getElem_toArray]); (try simp only [List.getElem_cons_succ]); (try simp only [List.getElem_cons_zero]); (try simp only [Act.put]); (try simp only [List.setIfInBounds_toArray]); (try simp only [List.set_cons_succ]); (try simp only [List.set_cons_zero]))
        (refine wpAnyH_take (i := 22) (v := undef) rfl (by kernel_rfl) (by kernel_rfl) (by kernel_rfl) (fun _ _ _ h => h) (Or.inr ⟨by rfl, rfl⟩) (by assumption) ?_; (try simp only [List.getElem_toArray]); (try simp only [List.getElem_cons_succ]); (try simp only [List.getElem_cons_zero]); (try simp only [Act.put]); (try simp only [List.setIfInBounds_toArray]); (try simp only [List.set_cons_succ]); (try simp only [List.set_cons_zero]))
        (refine wpAnyH_take (i := 23) (v := undef) rfl (by kernel_rfl) (by kernel_rfl) (by kernel_rfl) (fun _ _ _ h => h) (Or.inr ⟨by rfl, rfl⟩) (by assumption) ?_; (try simp only [List.getElem_toArray]); (try simp only [List.getElem_cons_succ]); (try simp only [List.getElem_cons_zero]); (try simp only [Act.put]); (try simp only [List.setIfInBounds_toArray]); (try simp only [List.set_cons_succ]); (try simp only [List.set_cons_zero]))
        (refine wpAnyH_take (i := 24) (v := undef) rfl (by kernel_rfl) (by kernel_rfl) (by kernel_rfl) (fun _ _ _ h => h) (Or.inr ⟨by rfl, rfl⟩) (by assumption) ?_; (try simp only [List.getElem_toArray]); (try simp only [List.getElem_cons_succ]); (try simp only [List.getElem_cons_zero]); (try simp only [Act.put]); (try simp only [List.setIfInBounds_toArray]); (try simp only [List.set_cons_succ]); (try simp only [List.set_cons_zero]))
        (refine wpAnyH_take (i := 25) (v := ?_) rfl (by kernel_rfl) (by kernel_rfl) (by kernel_rfl) (fun _ _ _ h => h) (Or.inl ⟨by rfl, ?_⟩) (by assumption) ?_; rotate_left; (focus (intro w' hSw; go_simp; try with_reducible rfl)); (try simp only [List.getElem_toArray]); (try simp only [List.getElem_cons_succ]); (try simp only [List.getElem_cons_zero]); (try simp only [Act.put]); (try simp only [List.setIfInBounds_toArray]); (try simp only [List.set_cons_succ]); (try simp only [List.set_cons_zero]))
        refine wpAnyH_done (by kernel_rfl) ?_ _
        go_wp2
        go_ret
        refine ⟨?_, E04.trans (Ext.drew (Ext.refl _))⟩
        rw [HR2.out, HD.out, HS.out, decide_eq_false (show ¬ p.pid < nx by omega), Bool.false_and, Bool.and_false]
        rfl
      rcases HL.out with ⟨rfl, rfl⟩ | ⟨k, q, rfl, hq, rfl, hq1⟩
      · refine wp_region_held_drew (S := fun w' => Ext w4 w') (by kernel_rfl) (Ext.drew (Ext.refl _)) (fun hHeld => ?_)
        (refine wpAnyH_take (i := 0) (v := ?_) rfl (by kernel_rfl) (by kernel_rfl) (by kernel_rfl) (fun _ _ _ h => h) (Or.inl ⟨by rfl, ?_⟩) (by assumption) ?_; rotate_left; (focus (intro w' hSw; go_simp; try with_reducible rfl)); (try simp only [List.getElem_toArray]); (try simp only [List.getElem_cons_succ]); (try simp only [List.getElem_cons_zero]); (try simp only [Act.put]); (try simp only [List.setIfInBounds_toArray]); (try simp only [List.set_cons_succ]); (try simp only [List.set_cons_zero]))
        (refine wpAnyH_take (i := 1) (v := ?_) rfl (by kernel_rfl) (by kernel_rfl) (by kernel_rfl) (fun _ _ _ h => h) (Or.inl ⟨by rfl, ?_⟩) (by assumption) ?_; rotate_left; (focus (intro w' hSw; have kc := cell_ext hSw c0; go_simp; try with_reducible rfl)); (try simp only [List.getElem_toArray]); (try simp only [List.getElem_cons_succ]); (try simp only [List.getElem_cons_zero]); (try simp only [Act.put]); (try simp only [List.setIfInBounds_toArray]); (try simp only [List.set_cons_succ]); (try simp only [List.set_cons_zero]))
        (refine wpAnyH_take (i := 2) (v := ?_) rfl (by kernel_rfl) (by kernel_rfl) (by kernel_rfl) (fun _ _ _ h => h) (Or.inl ⟨by rfl, ?_⟩) (by assumption) ?_; rotate_left; (focus (intro w' hSw; go_simp; try with_reducible rfl)); (try simp only [List.getElem_toArray]); (try simp only [List.getElem_cons_succ]); (try simp only [List.getElem_cons_zero]); (try simp only [Act.put]); (try simp only [List.setIfInBounds_toArray]); (try simp only [List.set_cons_succ]); (try simp only [List.set_cons_zero]))
        (refine wpAnyH_take (i := 3) (v := ?_) rfl (by kernel_rfl) (by kernel_rfl) (by kernel_rfl) (fun _ _ _ h => h) (Or.inl ⟨by rfl, ?_⟩) (by assumption) ?_; rotate_left; (focus (intro w' hSw; go_simp; try with_reducible rfl)); (try simp only [List.getElem_toArray]); (try simp only [List.getElem_cons_succ]); (try simp only [List.getElem_cons_zero]); (try simp only [Act.put]); (try simp only [List.setIfInBounds_toArray]); (try simp only [List.set_cons_succ]); (try simp only [List.set_cons_zero]))
        (refine wpAnyH_take (i := 4) (v := ?_) rfl (by kernel_rfl) (by kernel_rfl) (by kernel_rfl) (fun _ _ _ h => h) (Or.inl ⟨by rfl, ?_⟩) (by assumption) ?_; rotate_left; (focus (intro w' hSw; go_simp; try with_reducible rfl)); (try simp only [List.getElem_toArray]); (try simp only [List.getElem_cons_succ]); (try simp only [List.getElem_cons_zero]); (try simp only [Act.put]); (try simp only [List.setIfInBounds_toArray]); (try simp only [List.set_cons_succ]); (try simp only [List.set_cons_zero]))
        (refine wpAnyH_take (i := 5) (v := ?_) rfl (by kernel_rfl) (by kernel_rfl) (by kernel_rfl) (fun _ _ _ h => h) (Or.inl ⟨by rfl, ?_⟩) (by assumption) ?_; rotate_left; (focus (intro w' hSw; have kc := cell_ext hSw c0; go_simp; try with_reducible rfl)); (try simp only [List.getElem_toArray]); (try simp only [List.getElem_cons_succ]); (try simp only [List.getElem_cons_zero]); (try simp only [Act.put]); (try simp only [List.setIfInBounds_toArray]); (try simp only [List.set_cons_succ]); (try simp only [List.set_cons_zero]))
        (refine wpAnyH_take (i := 6) (v := ?_) rfl (by kernel_rfl) (by kernel_rfl) (by kernel_rfl) (fun _ _ _ h => h) (Or.inl ⟨by rfl, ?_⟩) (by assumption) ?_; rotate_left; (focus (intro w' hSw; go_simp; try with_reducible rfl)); (try simp only [List.getElem_toArray]); (try simp only [List.getElem_cons_succ]); (try simp only [List.getElem_cons_zero]); (try simp only [Act.put]); (try simp only [List.setIfInBounds_toArray]); (try simp only [List.set_cons_succ]); (try simp only [List.set_cons_zero]))
        (refine wpAnyH_take (i := 7) (v := ?_) rfl (by kernel_rfl) (by kernel_rfl) (by kernel_rfl) (fun _ _ _ h => h) (Or.inl ⟨by rfl, ?_⟩) (by assumption) ?_; rotate_left; (focus (intro w' hSw; have kc := (hb.out.ext hSw).two; go_simp; try with_reducible rfl)); (try simp only [List.getElem_toArray]); (try simp only [List.getElem_cons_succ]); (try simp only [List.getElem_cons_zero]); (try simp only [Act.put]); (try simp only [List.setIfInBounds_toArray]); (try simp only [List.set_cons_succ]); (try simp only [List.set_cons_zero]))
        (refine wpAnyH_take (i := 8) (v := ?_) rfl (by kernel_rfl) (by kernel_rfl) (by kernel_rfl) (fun _ _ _ h => h) (Or.inl ⟨by rfl, ?_⟩) (by assumption) ?_; rotate_left; (focus (intro w' hSw; go_simp; try with_reducible rfl)); (try simp only [List.getElem_toArray]); (try simp only [List.getElem_cons_succ]); (try simp only [List.getElem_cons_zero]); (try simp only [Act.put]); (try simp only [List.setIfInBounds_toArray]); (try simp only [List.set_cons_succ]); (try simp only [List.set_cons_zero]))
        (refine wpAnyH_take (i := 9) (v := ?_) rfl (by kernel_rfl) (by kernel_rfl) (by kernel_rfl) (fun _ _ _ h => h) (Or.inl ⟨by rfl, ?_⟩) (by assumption) ?_; rotate_left; (focus (intro w' hSw; go_simp; try with_reducible rfl)); (try simp only [List.getElem_toArray]); (try simp only [List.getElem_cons_succ]); (try simp only [List.getElem_cons_zero]); (try simp only [Act.put]); (try simp only [List.setIfInBounds_toArray]); (try simp only [List.set_cons_succ]); (try simp only [List.set_cons_zero]))
        (refine wpAnyH_take (i := 10) (v := ?_) rfl (by kernel_rfl) (by kernel_rfl) (by kernel_rfl) (fun _ _ _ h => h) (Or.inl ⟨by rfl, ?_⟩) (by assumption) ?_; rotate_left; (focus (intro w' hSw; go_simp; try with_reducible rfl)); (try simp only [List.getElem_toArray]); (try simp only [List.getElem_cons_succ]); (try simp only [List.getElem_cons_zero]); (try simp only [Act.put]); (try simp only [List.setIfInBounds_toArray]); (try simp only [List.set_cons_succ]); (try simp only [List.set_cons_zero]))
        (refine wpAnyH_take (i := 11) (v := ?_) rfl (by kernel_rfl) (by kernel_rfl) (by kernel_rfl) (fun _ _ _ h => h) (Or.inl ⟨by rfl, ?_⟩) (by assumption) ?_; rotate_left; (focus (intro w' hSw; go_simp; try with_reducible rfl)); (try simp only [List.getElem_toArray]); (try simp only [List.getElem_cons_succ]); (try simp only [List.getElem_cons_zero]); (try simp only [Act.put]); (try simp only [List.setIfInBounds_toArray]); (try simp only [List.set_cons_succ]); (try simp only [List.set_cons_zero]))
        (refine wpAnyH_take (i := 12) (v := ?_) rfl (by kernel_rfl) (by kernel_rfl) (by kernel_rfl) (fun _ _ _ h => h) (Or.inl ⟨by rfl, ?_⟩) (by assumption) ?_; rotate_left; (focus (intro w' hSw; go_simp; try with_reducible rfl)); (try simp only [List.getElem_toArray]); (try simp only [List.getElem_cons_succ]); (try simp only [List.getElem_cons_zero]); (try simp only [Act.put]); (try simp only [List.setIfInBounds_toArray]); (try simp only [List.set_cons_succ]); (try simp only [List.set_cons_zero]))
        (refine wpAnyH_take (i := 13) (v := ?_) rfl (by kernel_rfl) (by kernel_rfl) (by kernel_rfl) (fun _ _ _ h => h) (Or.inl ⟨by rfl, ?_⟩) (by assumption) ?_; rotate_left; (focus (intro w' hSw; go_simp; try with_reducible rfl)); (try simp only [List.getElem_toArray]); (try simp only [List.getElem_cons_succ]); (try simp only [List.getElem_cons_zero]); (try simp only [Act.put]); (try simp only [List.setIfInBounds_toArray]); (try simp only [List.set_cons_succ]); (try simp only [List.set_cons_zero]))
        (refine wpAnyH_take (i := 14) (v := undef) rfl (by kernel_rfl) (by kernel_rfl) (by kernel_rfl) (fun _ _ _ h => h) (Or.inr ⟨by rfl, rfl⟩) (by assumption) ?_; (try simp only [List.getElem_toArray]); (try simp only [List.getElem_cons_succ]); (try simp only [List.getElem_cons_zero]); (try simp only [Act.put]); (try simp only [List.setIfInBounds_toArray]); (try simp only [List.set_cons_succ]); (try simp only [List.set_cons_zero]))
        (refine wpAnyH_take (i := 15) (v := undef) rfl (by kernel_rfl) (by kernel_rfl) (by kernel_rfl) (fun _ _ _ h => h) (Or.inr ⟨by rfl, rfl⟩) (by assumption) ?_; (try simp only [List.getElem_toArray]); (try simp only [List.getElem_cons_succ]); (try simp only [List.getElem_cons_zero]); (try simp only [Act.put]); (try simp only [List.setIfInBounds_toArray]); (try simp only [List.set_cons_succ]); (try simp only [List.set_cons_zero]))
        (refine wpAnyH_take (i := 16) (v := undef) rfl (by kernel_rfl) (by kernel_rfl) (by kernel_rfl) (fun _ _ _ h => h) (Or.inr ⟨by rfl, rfl⟩) (by assumption) ?_; (try simp only [List.getElem_toArray]); (try simp only [List.getElem_cons_succ]); (try simp only [List.getElem_cons_zero]); (try simp only [Act.put]); (try simp only [List.setIfInBounds_toArray]); (try simp only [List.set_cons_succ]); (try simp only [List.set_cons_zero]))
        (refine wpAnyH_take (i := 17) (v := undef) rfl (by kernel_rfl) (by kernel_rfl) (by kernel_rfl) (fun _ _ _ h => h) (Or.inr ⟨by rfl, rfl⟩) (by assumption) ?_; (try simp only [List.getElem_toArray]); (try simp only [List.getElem_cons_succ]); (try simp only [List.getElem_cons_zero]); (try simp only [Act.put]); (try simp only [List.setIfInBounds_toArray]); (try simp only [List.set_cons_succ]); (try simp only [List.set_cons_zero]))
        (refine wpAnyH_take (i := 18) (v := undef) rfl (by kernel_rfl) (by kernel_rfl) (by kernel_rfl) (fun _ _ _ h => h) (Or.inr ⟨by rfl, rfl⟩) (by assumption) ?_; (try simp only [List.getElem_toArray]); (try simp only [List.getElem_cons_succ]); (try simp only [List.getElem_cons_zero]); (try simp only [Act.put]); (try simp only [List.setIfInBounds_toArray]); (try simp only [List.set_cons_succ]); (try simp only [List.set_cons_zero]))
        (refine wpAnyH_take (i := 19) (v := undef) rfl (by kernel_rfl) (by kernel_rfl) (by kernel_rfl) (fun _ _ _ h => h) (Or.inr ⟨by rfl, rfl⟩) (by assumption) ?_; (try simp only [List.getElem_toArray]); (try simp only [List.getElem_cons_succ]); (try simp only [List.getElem_cons_zero]); (try simp only [Act.put]); (try simp only [List.setIfInBounds_toArray]); (try simp only [List.set_cons_succ]); (try simp only [List.set_cons_zero]))
        (refine wpAnyH_take (i := 20) (v := undef) rfl (by kernel_rfl) (by kernel_rfl) (by kernel_rfl) (fun _ _ _ h => h) (Or.inr ⟨by rfl, rfl⟩) (by assumption) ?_; (try simp only [List.getElem_toArray]); (try simp only [List.getElem_cons_succ]); (try simp only [List.getElem_cons_zero]); (try simp only [Act.put]); (try simp only [List.setIfInBounds_toArray]); (try simp only [List.set_cons_succ]); (try simp only [List.set_cons_zero]))
        (refine wpAnyH_take (i := 21) (v := undef) rfl (by kernel_rfl) (by kernel_rfl) (by kernel_rfl) (fun _ _ _ h => h) (Or.inr ⟨by rfl, rfl⟩) (by assumption) ?_; (try simp only [List.getElem_toArray]); (try simp only [List.getElem_cons_succ]); (try simp only [List.getElem_cons_zero]); (try simp only [Act.put]); (try simp only [List.setIfInBounds_toArray]); (try simp only [List.set_cons_succ]); (try simp only [List.set_cons_zero]))
        (refine wpAnyH_take (i := 22) (v := undef) rfl (by kernel_rfl) (by kernel_rfl) (by kernel_rfl) (fun _ _ _ h => h) (Or.inr ⟨by rfl, rfl⟩) (by assumption) ?_; (try simp only [List.getElem_toArray]); (try simp only [List.getElem_cons_succ]); (try simp only [List.getElem_cons_zero]); (try simp only [Act.put]); (try simp only [List.setIfInBounds_toArray]); (try simp only [List.set_cons_succ]); (try simp only [List.set_cons_zero]))
        (refine wpAnyH_take (i := 23) (v := undef) rfl (by kernel_rfl) (by kernel_rfl) (by kernel_rfl) (fun _ _ _ h => h) (Or.inr ⟨by rfl, rfl⟩) (by assumption) ?_; (try simp only [List.getElem_toArray]); (try simp only [List.getElem_cons_succ]); (try simp only [List.getElem_cons_zero]); (try simp only [Act.put]); (try simp only [List.setIfInBounds_toArray]); (try simp only [List.set_cons_succ]); (try simp only [List.set_cons_zero]))
        (refine wpAnyH_take (i := 24) (v := ?_) rfl (by kernel_rfl) (by kernel_rfl) (by kernel_rfl) (fun _ _ _ h => h) (Or.inl ⟨by rfl, ?_⟩) (by assumption) ?_; rotate_left; (focus (intro w' hSw; go_simp; try with_reducible rfl)); (try simp only [List.getElem_toArray]); (try simp only [List.getElem_cons_succ]); (try simp only [List.getElem_cons_zero]); (try simp only [Act.put]); (try simp only [List.setIfInBounds_toArray]); (try simp only [List.set_cons_succ]); (try simp only [List.set_cons_zero]))
        (refine wpAnyH_take (i := 25) (v := ?_) rfl (by kernel_rfl) (by kernel_rfl) (by kernel_rfl) (fun _ _ _ h => h) (Or.inl ⟨by rfl, ?_⟩) (by assumption) ?_; rotate_left; (focus (intro w' hSw; go_simp; try with_reducible rfl)); (try simp only [List.getElem_toArray]); (try simp only [List.getElem_cons_succ]); (try simp only [List.getElem_cons_zero]); (try simp only [Act.put]); (try simp only [List.setIfInBounds_toArray]); (try simp only [List.set_cons_succ]); (try simp only [List.set_cons_zero]))
        refine wpAnyH_done (by kernel_rfl) ?_ _
        go_wp2
        go_roundw
        case rel => exact ⟨1, p.pid, by omega, by go_num, Lib.hid (by rw [HD.out, HS.out, decide_eq_true (show 0 < p.pid by omega), decide_eq_true (show p.pid < nx by omega)]; rfl), Lib.hid (.inr ⟨0, p, rfl, hd.out, rfl, by omega⟩), Lib.hid (hb.out.ext (Ext.drew (Ext.refl _))), E04.trans (Ext.drew (Ext.refl _))⟩
        case measure => simp [intOf]; omega
      · obtain ⟨b', off', q', hAd, hd', hok', hcell'⟩ := pr_at (H.out.ext hE) (show k < n by omega)
        cases hAd
        obtain rfl : q' = q := by have := hd'.out; rw [hq] at this; exact (Option.some.inj this).symm
        have d0 := (prAt_of hok' hcell'.out).c0
        have hkw : IntKind.i64.wrap (((k + 1 : Nat) : Int) - 1) = (k : Int) := by rw [show ((k + 1 : Nat) : Int) - 1 = (k : Int) by omega]; exact IntWalk.i64_in _ (by omega)
        have hkw2 : IntKind.i64.wrap ((k : Int) + 1 - 1) = (k : Int) := by rw [show (k : Int) + 1 - 1 = (k : Int) by omega]; exact IntWalk.i64_in _ (by omega)
        have hkw3 : IntKind.i64.wrap (k : Int) = (k : Int) := IntWalk.i64_in _ (by omega)
        have hk1 : (k : Int) < (n : Int) := by omega
        have hk0 : (0 : Int) < (k : Int) + 1 := by omega
        clear hq hd' hcell'
        by_cases k3 : p.pid ≤ q'.pid
        · refine wp_region_held_drew (S := fun w' => Ext w4 w') (by kernel_rfl) (Ext.drew (Ext.refl _)) (fun hHeld => ?_)
          (refine wpAnyH_take (i := 0) (v := ?_) rfl (by kernel_rfl) (by kernel_rfl) (by kernel_rfl) (fun _ _ _ h => h) (Or.inl ⟨by rfl, ?_⟩) (by assumption) ?_; rotate_left; (focus (intro w' hSw; go_simp; try with_reducible rfl)); (try simp only [List.getElem_toArray]); (try simp only [List.getElem_cons_succ]); (try simp only [List.getElem_cons_zero]); (try simp only [Act.put]); (try simp only [List.setIfInBounds_toArray]); (try simp only [List.set_cons_succ]); (try simp only [List.set_cons_zero]))
          (refine wpAnyH_take (i := 1) (v := ?_) rfl (by kernel_rfl) (by kernel_rfl) (by kernel_rfl) (fun _ _ _ h => h) (Or.inl ⟨by rfl, ?_⟩) (by assumption) ?_; rotate_left; (focus (intro w' hSw; have kc := cell_ext hSw c0; go_simp; try with_reducible rfl)); (try simp only [List.getElem_toArray]); (try simp only [List.getElem_cons_succ]); (try simp only [List.getElem_cons_zero]); (try simp only [Act.put]); (try simp only [List.setIfInBounds_toArray]); (try simp only [List.set_cons_succ]); (try simp only [List.set_cons_zero]))
          (refine wpAnyH_take (i := 2) (v := ?_) rfl (by kernel_rfl) (by kernel_rfl) (by kernel_rfl) (fun _ _ _ h => h) (Or.inl ⟨by rfl, ?_⟩) (by assumption) ?_; rotate_left; (focus (intro w' hSw; go_simp; try with_reducible rfl)); (try simp only [List.getElem_toArray]); (try simp only [List.getElem_cons_succ]); (try simp only [List.getElem_cons_zero]); (try simp only [Act.put]); (try simp only [List.setIfInBounds_toArray]); (try simp only [List.set_cons_succ]); (try simp only [List.set_cons_zero]))
          (refine wpAnyH_take (i := 3) (v := ?_) rfl (by kernel_rfl) (by kernel_rfl) (by kernel_rfl) (fun _ _ _ h => h) (Or.inl ⟨by rfl, ?_⟩) (by assumption) ?_; rotate_left; (focus (intro w' hSw; go_simp; try with_reducible rfl)); (try simp only [List.getElem_toArray]); (try simp only [List.getElem_cons_succ]); (try simp only [List.getElem_cons_zero]); (try simp only [Act.put]); (try simp only [List.setIfInBounds_toArray]); (try simp only [List.set_cons_succ]); (try simp only [List.set_cons_zero]))
          (refine wpAnyH_take (i := 4) (v := ?_) rfl (by kernel_rfl) (by kernel_rfl) (by kernel_rfl) (fun _ _ _ h => h) (Or.inl ⟨by rfl, ?_⟩) (by assumption) ?_; rotate_left; (focus (intro w' hSw; go_simp; try with_reducible rfl)); (try simp only [List.getElem_toArray]); (try simp only [List.getElem_cons_succ]); (try simp only [List.getElem_cons_zero]); (try simp only [Act.put]); (try simp only [List.setIfInBounds_toArray]); (try simp only [List.set_cons_succ]); (try simp only [List.set_cons_zero]))
          (refine wpAnyH_take (i := 5) (v := ?_) rfl (by kernel_rfl) (by kernel_rfl) (by kernel_rfl) (fun _ _ _ h => h) (Or.inl ⟨by rfl, ?_⟩) (by assumption) ?_; rotate_left; (focus (intro w' hSw; have kc := cell_ext hSw c0; go_simp; try with_reducible rfl)); (try simp only [List.getElem_toArray]); (try simp only [List.getElem_cons_succ]); (try simp only [List.getElem_cons_zero]); (try simp only [Act.put]); (try simp only [List.setIfInBounds_toArray]); (try simp only [List.set_cons_succ]); (try simp only [List.set_cons_zero]))
          (refine wpAnyH_take (i := 6) (v := ?_) rfl (by kernel_rfl) (by kernel_rfl) (by kernel_rfl) (fun _ _ _ h => h) (Or.inl ⟨by rfl, ?_⟩) (by assumption) ?_; rotate_left; (focus (intro w' hSw; go_simp; try with_reducible rfl)); (try simp only [List.getElem_toArray]); (try simp only [List.getElem_cons_succ]); (try simp only [List.getElem_cons_zero]); (try simp only [Act.put]); (try simp only [List.setIfInBounds_toArray]); (try simp only [List.set_cons_succ]); (try simp only [List.set_cons_zero]))
          (refine wpAnyH_take (i := 7) (v := ?_) rfl (by kernel_rfl) (by kernel_rfl) (by kernel_rfl) (fun _ _ _ h => h) (Or.inl ⟨by rfl, ?_⟩) (by assumption) ?_; rotate_left; (focus (intro w' hSw; have kc := (hb.out.ext hSw).two; go_simp; try with_reducible rfl)); (try simp only [List.getElem_toArray]); (try simp only [List.getElem_cons_succ]); (try simp only [List.getElem_cons_zero]); (try simp only [Act.put]); (try simp only [List.setIfInBounds_toArray]); (try simp only [List.set_cons_succ]); (try simp only [List.set_cons_zero]))
          (refine wpAnyH_take (i := 8) (v := ?_) rfl (by kernel_rfl) (by kernel_rfl) (by kernel_rfl) (fun _ _ _ h => h) (Or.inl ⟨by rfl, ?_⟩) (by assumption) ?_; rotate_left; (focus (intro w' hSw; go_simp; try with_reducible rfl)); (try simp only [List.getElem_toArray]); (try simp only [List.getElem_cons_succ]); (try simp only [List.getElem_cons_zero]); (try simp only [Act.put]); (try simp only [List.setIfInBounds_toArray]); (try simp only [List.set_cons_succ]); (try simp only [List.set_cons_zero]))
          (refine wpAnyH_take (i := 9) (v := ?_) rfl (by kernel_rfl) (by kernel_rfl) (by kernel_rfl) (fun _ _ _ h => h) (Or.inl ⟨by rfl, ?_⟩) (by assumption) ?_; rotate_left; (focus (intro w' hSw; go_simp; try with_reducible rfl)); (try simp only [List.getElem_toArray]); (try simp only [List.getElem_cons_succ]); (try simp only [List.getElem_cons_zero]); (try simp only [Act.put]); (try simp only [List.setIfInBounds_toArray]); (try simp only [List.set_cons_succ]); (try simp only [List.set_cons_zero]))
          (refine wpAnyH_take (i := 10) (v := ?_) rfl (by kernel_rfl) (by kernel_rfl) (by kernel_rfl) (fun _ _ _ h => h) (Or.inl ⟨by rfl, ?_⟩) (by assumption) ?_; rotate_left; (focus (intro w' hSw; go_simp; try with_reducible rfl)); (try simp only [List.getElem_toArray]); (try simp only [List.getElem_cons_succ]); (try simp only [List.getElem_cons_zero]); (try simp only [Act.put]); (try simp only [List.setIfInBounds_toArray]); (try simp only [List.set_cons_succ]); (try simp only [List.set_cons_zero]))
          (refine wpAnyH_take (i := 11) (v := ?_) rfl (by kernel_rfl) (by kernel_rfl) (by kernel_rfl) (fun _ _ _ h => h) (Or.inl ⟨by rfl, ?_⟩) (by assumption) ?_; rotate_left; (focus (intro w' hSw; go_simp; try with_reducible rfl)); (try simp only [List.getElem_toArray]); (try simp only [List.getElem_cons_succ]); (try simp only [List.getElem_cons_zero]); (try simp only [Act.put]); (try simp only [List.setIfInBounds_toArray]); (try simp only [List.set_cons_succ]); (try simp only [List.set_cons_zero]))
          (refine wpAnyH_take (i := 12) (v := ?_) rfl (by kernel_rfl) (by kernel_rfl) (by kernel_rfl) (fun _ _ _ h => h) (Or.inl ⟨by rfl, ?_⟩) (by assumption) ?_; rotate_left; (focus (intro w' hSw; go_simp; try with_reducible rfl)); (try simp only [List.getElem_toArray]); (try simp only [List.getElem_cons_succ]); (try simp only [List.getElem_cons_zero]); (try simp only [Act.put]); (try simp only [List.setIfInBounds_toArray]); (try simp only [List.set_cons_succ]); (try simp only [List.set_cons_zero]))
          (refine wpAnyH_take (i := 13) (v := ?_) rfl (by kernel_rfl) (by kernel_rfl) (by kernel_rfl) (fun _ _ _ h => h) (Or.inl ⟨by rfl, ?_⟩) (by assumption) ?_; rotate_left; (focus (intro w' hSw; go_simp; try with_reducible rfl)); (try simp only [List.getElem_toArray]); (try simp only [List.getElem_cons_succ]); (try simp only [List.getElem_cons_zero]); (try simp only [Act.put]); (try simp only [List.setIfInBounds_toArray]); (try simp only [List.set_cons_succ]); (try simp only [List.set_cons_zero]))
          (refine wpAnyH_take (i := 14) (v := ?_) rfl (by kernel_rfl) (by kernel_rfl) (by kernel_rfl) (fun _ _ _ h => h) (Or.inl ⟨by rfl, ?_⟩) (by assumption) ?_; rotate_left; (focus (intro w' hSw; go_simp; try with_reducible rfl)); (try simp only [List.getElem_toArray]); (try simp only [List.getElem_cons_succ]); (try simp only [List.getElem_cons_zero]); (try simp only [Act.put]); (try simp only [List.setIfInBounds_toArray]); (try simp only [List.set_cons_succ]); (try simp only [List.set_cons_zero]))
          (refine wpAnyH_take (i := 15) (v := ?_) rfl (by kernel_rfl) (by kernel_rfl) (by kernel_rfl) (fun _ _ _ h => h) (Or.inl ⟨by rfl, ?_⟩) (by assumption) ?_; rotate_left; (focus (intro w' hSw; have kc := cell_ext hSw c0; go_simp; try with_reducible rfl)); (try simp only [List.getElem_toArray]); (try simp only [List.getElem_cons_succ]); (try simp only [List.getElem_cons_zero]); (try simp only [Act.put]); (try simp only [List.setIfInBounds_toArray]); (try simp only [List.set_cons_succ]); (try simp only [List.set_cons_zero]))
          (refine wpAnyH_take (i := 16) (v := ?_) rfl (by kernel_rfl) (by kernel_rfl) (by kernel_rfl) (fun _ _ _ h => h) (Or.inl ⟨by rfl, ?_⟩) (by assumption) ?_; rotate_left; (focus (intro w' hSw; go_simp; try with_reducible rfl)); (try simp only [List.getElem_toArray]); (try simp only [List.getElem_cons_succ]); (try simp only [List.getElem_cons_zero]); (try simp only [Act.put]); (try simp only [List.setIfInBounds_toArray]); (try simp only [List.set_cons_succ]); (try simp only [List.set_cons_zero]))
          (refine wpAnyH_take (i := 17) (v := ?_) rfl (by kernel_rfl) (by kernel_rfl) (by kernel_rfl) (fun _ _ _ h => h) (Or.inl ⟨by rfl, ?_⟩) (by assumption) ?_; rotate_left; (focus (intro w' hSw; have kc := (hb.out.ext hSw).two; go_simp; try with_reducible rfl)); (try simp only [List.getElem_toArray]); (try simp only [List.getElem_cons_succ]); (try simp only [List.getElem_cons_zero]); (try simp only [Act.put]); (try simp only [List.setIfInBounds_toArray]); (try simp only [List.set_cons_succ]); (try simp only [List.set_cons_zero]))
          (refine wpAnyH_take (i := 18) (v := ?_) rfl (by kernel_rfl) (by kernel_rfl) (by kernel_rfl) (fun _ _ _ h => h) (Or.inl ⟨by rfl, ?_⟩) (by assumption) ?_; rotate_left; (focus (intro w' hSw; go_simp; try with_reducible rfl)); (try simp only [List.getElem_toArray]); (try simp only [List.getElem_cons_succ]); (try simp only [List.getElem_cons_zero]); (try simp only [Act.put]); (try simp only [List.setIfInBounds_toArray]); (try simp only [List.set_cons_succ]); (try simp only [List.set_cons_zero]))
          (refine wpAnyH_take (i := 19) (v := ?_) rfl (by kernel_rfl) (by kernel_rfl) (by kernel_rfl) (fun _ _ _ h => h) (Or.inl ⟨by rfl, ?_⟩) (by assumption) ?_; rotate_left; (focus (intro w' hSw; go_simp; try with_reducible rfl)); (try simp only [List.getElem_toArray]); (try simp only [List.getElem_cons_succ]); (try simp only [List.getElem_cons_zero]); (try simp only [Act.put]); (try simp only [List.setIfInBounds_toArray]); (try simp only [List.set_cons_succ]); (try simp only [List.set_cons_zero]))
          (refine wpAnyH_take (i := 20) (v := ?_) rfl (by kernel_rfl) (by kernel_rfl) (by kernel_rfl) (fun _ _ _ h => h) (Or.inl ⟨by rfl, ?_⟩) (by assumption) ?_; rotate_left; (focus (intro w' hSw; go_simp; try with_reducible rfl)); (try simp only [List.getElem_toArray]); (try simp only [List.getElem_cons_succ]); (try simp only [List.getElem_cons_zero]); (try simp only [Act.put]); (try simp only [List.setIfInBounds_toArray]); (try simp only [List.set_cons_succ]); (try simp only [List.set_cons_zero]))
          (refine wpAnyH_take (i := 21) (v := ?_) rfl (by kernel_rfl) (by kernel_rfl) (by kernel_rfl) (fun _ _ _ h => h) (Or.inl ⟨by rfl, ?_⟩) (by assumption) ?_; rotate_left; (focus (intro w' hSw; go_simp; try with_reducible rfl)); (try simp only [List.getElem_toArray]); (try simp only [List.getElem_cons_succ]); (try simp only [List.getElem_cons_zero]); (try simp only [Act.put]); (try simp only [List.setIfInBounds_toArray]); (try simp only [List.set_cons_succ]); (try simp only [List.set_cons_zero]))
          (refine wpAnyH_take (i := 22) (v := ?_) rfl (by kernel_rfl) (by kernel_rfl) (by kernel_rfl) (fun _ _ _ h => h) (Or.inl ⟨by rfl, ?_⟩) (by assumption) ?_; rotate_left; (focus (intro w' hSw; have kc := cell_ext (Ext.trans Er hSw) d0; go_simp; try with_reducible rfl)); (try simp only [List.getElem_toArray]); (try simp only [List.getElem_cons_succ]); (try simp only [List.getElem_cons_zero]); (try simp only [Act.put]); (try simp only [List.setIfInBounds_toArray]); (try simp only [List.set_cons_succ]); (try simp only [List.set_cons_zero]))
          (refine wpAnyH_take (i := 23) (v := ?_) rfl (by kernel_rfl) (by kernel_rfl) (by kernel_rfl) (fun _ _ _ h => h) (Or.inl ⟨by rfl, ?_⟩) (by assumption) ?_; rotate_left; (focus (intro w' hSw; go_simp; try with_reducible rfl)); (try simp only [List.getElem_toArray]); (try simp only [List.getElem_cons_succ]); (try simp only [List.getElem_cons_zero]); (try simp only [Act.put]); (try simp only [List.setIfInBounds_toArray]); (try simp only [List.set_cons_succ]); (try simp only [List.set_cons_zero]))
          (refine wpAnyH_take (i := 24) (v := ?_) rfl (by kernel_rfl) (by kernel_rfl) (by kernel_rfl) (fun _ _ _ h => h) (Or.inl ⟨by rfl, ?_⟩) (by assumption) ?_; rotate_left; (focus (intro w' hSw; go_simp; try with_reducible rfl)); (try simp only [List.getElem_toArray]); (try simp only [List.getElem_cons_succ]); (try simp only [List.getElem_cons_zero]); (try simp only [Act.put]); (try simp only [List.setIfInBounds_toArray]); (try simp only [List.set_cons_succ]); (try simp only [List.set_cons_zero]))
          (refine wpAnyH_take (i := 25) (v := ?_) rfl (by kernel_rfl) (by kernel_rfl) (by kernel_rfl) (fun _ _ _ h => h) (Or.inl ⟨by rfl, ?_⟩) (by assumption) ?_; rotate_left; (focus (intro w' hSw; go_simp; try with_reducible rfl)); (try simp only [List.getElem_toArray]); (try simp only [List.getElem_cons_succ]); (try simp only [List.getElem_cons_zero]); (try simp only [Act.put]); (try simp only [List.setIfInBounds_toArray]); (try simp only [List.set_cons_succ]); (try simp only [List.set_cons_zero]))
          refine wpAnyH_done (by kernel_rfl) ?_ _
          go_wp2
          go_ret
          exact ⟨by rw [HR2.out, HD.out, HS.out, decide_eq_false (show ¬ q'.pid < p.pid by omega)]; rfl, E04.trans (Ext.drew (Ext.refl _))⟩
        · refine wp_region_held_drew (S := fun w' => Ext w4 w') (by kernel_rfl) (Ext.drew (Ext.refl _)) (fun hHeld => ?_)
          (refine wpAnyH_take (i := 0) (v := ?_) rfl (by kernel_rfl) (by kernel_rfl) (by kernel_rfl) (fun _ _ _ h => h) (Or.inl ⟨by rfl, ?_⟩) (by assumption) ?_; rotate_left; (focus (intro w' hSw; go_simp; try with_reducible rfl)); (try simp only [List.getElem_toArray]); (try simp only [List.getElem_cons_succ]); (try simp only [List.getElem_cons_zero]); (try simp only [Act.put]); (try simp only [List.setIfInBounds_toArray]); (try simp only [List.set_cons_succ]); (try simp only [List.set_cons_zero]))
          (refine wpAnyH_take (i := 1) (v := ?_) rfl (by kernel_rfl) (by kernel_rfl) (by kernel_rfl) (fun _ _ _ h => h) (Or.inl ⟨by rfl, ?_⟩) (by assumption) ?_; rotate_left; (focus (intro w' hSw; have kc := cell_ext hSw c0; go_simp; try with_reducible rfl)); (try simp only [List.getElem_toArray]); (try simp only [List.getElem_cons_succ]); (try simp only [List.getElem_cons_zero]); (try simp only [Act.put]); (try simp only [List.setIfInBounds_toArray]); (try simp only [List.set_cons_succ]); (try simp only [List.set_cons_zero]))
          (refine wpAnyH_take (i := 2) (v := ?_) rfl (by kernel_rfl) (by kernel_rfl) (by kernel_rfl) (fun _ _ _ h => h) (Or.inl ⟨by rfl, ?_⟩) (by assumption) ?_; rotate_left; (focus (intro w' hSw; go_simp; try with_reducible rfl)); (try simp only [List.getElem_toArray]); (try simp only [List.getElem_cons_succ]); (try simp only [List.getElem_cons_zero]); (try simp only [Act.put]); (try simp only [List.setIfInBounds_toArray]); (try simp only [List.set_cons_succ]); (try simp only [List.set_cons_zero]))
          (refine wpAnyH_take (i := 3) (v := ?_) rfl (by kernel_rfl) (by kernel_rfl) (by kernel_rfl) (fun _ _ _ h => h) (Or.inl ⟨by rfl, ?_⟩) (by assumption) ?_; rotate_left; (focus (intro w' hSw; go_simp; try with_reducible rfl)); (try simp only [List.getElem_toArray]); (try simp only [List.getElem_cons_succ]); (try simp only [List.getElem_cons_zero]); (try simp only [Act.put]); (try simp only [List.setIfInBounds_toArray]); (try simp only [List.set_cons_succ]); (try simp only [List.set_cons_zero]))
          (refine wpAnyH_take (i := 4) (v := ?_) rfl (by kernel_rfl) (by kernel_rfl) (by kernel_rfl) (fun _ _ _ h => h) (Or.inl ⟨by rfl, ?_⟩) (by assumption) ?_; rotate_left; (focus (intro w' hSw; go_simp; try with_reducible rfl)); (try simp only [List.getElem_toArray]); (try simp only [List.getElem_cons_succ]); (try simp only [List.getElem_cons_zero]); (try simp only [Act.put]); (try simp only [List.setIfInBounds_toArray]); (try simp only [List.set_cons_succ]); (try simp only [List.set_cons_zero]))
          (refine wpAnyH_take (i := 5) (v := ?_) rfl (by kernel_rfl) (by kernel_rfl) (by kernel_rfl) (fun _ _ _ h => h) (Or.inl ⟨by rfl, ?_⟩) (by assumption) ?_; rotate_left; (focus (intro w' hSw; have kc := cell_ext hSw c0; go_simp; try with_reducible rfl)); (try simp only [List.getElem_toArray]); (try simp only [List.getElem_cons_succ]); (try simp only [List.getElem_cons_zero]); (try simp only [Act.put]); (try simp only [List.setIfInBounds_toArray]); (try simp only [List.set_cons_succ]); (try simp only [List.set_cons_zero]))
          (refine wpAnyH_take (i := 6) (v := ?_) rfl (by kernel_rfl) (by kernel_rfl) (by kernel_rfl) (fun _ _ _ h => h) (Or.inl ⟨by rfl, ?_⟩) (by assumption) ?_; rotate_left; (focus (intro w' hSw; go_simp; try with_reducible rfl)); (try simp only [List.getElem_toArray]); (try simp only [List.getElem_cons_succ]); (try simp only [List.getElem_cons_zero]); (try simp only [Act.put]); (try simp only [List.setIfInBounds_toArray]); (try simp only [List.set_cons_succ]); (try simp only [List.set_cons_zero]))
          (refine wpAnyH_take (i := 7) (v := ?_) rfl (by kernel_rfl) (by kernel_rfl) (by kernel_rfl) (fun _ _ _ h => h) (Or.inl ⟨by rfl, ?_⟩) (by assumption) ?_; rotate_left; (focus (intro w' hSw; have kc := (hb.out.ext hSw).two; go_simp; try with_reducible rfl)); (try simp only [List.getElem_toArray]); (try simp only [List.getElem_cons_succ]); (try simp only [List.getElem_cons_zero]); (try simp only [Act.put]); (try simp only [List.setIfInBounds_toArray]); (try simp only [List.set_cons_succ]); (try simp only [List.set_cons_zero]))
          (refine wpAnyH_take (i := 8) (v := ?_) rfl (by kernel_rfl) (by kernel_rfl) (by kernel_rfl) (fun _ _ _ h => h) (Or.inl ⟨by rfl, ?_⟩) (by assumption) ?_; rotate_left; (focus (intro w' hSw; go_simp; try with_reducible rfl)); (try simp only [List.getElem_toArray]); (try simp only [List.getElem_cons_succ]); (try simp only [List.getElem_cons_zero]); (try simp only [Act.put]); (try simp only [List.setIfInBounds_toArray]); (try simp only [List.set_cons_succ]); (try simp only [List.set_cons_zero]))
          (refine wpAnyH_take (i := 9) (v := ?_) rfl (by kernel_rfl) (by kernel_rfl) (by kernel_rfl) (fun _ _ _ h => h) (Or.inl ⟨by rfl, ?_⟩) (by assumption) ?_; rotate_left; (focus (intro w' hSw; go_simp; try with_reducible rfl)); (try simp only [List.getElem_toArray]); (try simp only [List.getElem_cons_succ]); (try simp only [List.getElem_cons_zero]); (try simp only [Act.put]); (try simp only [List.setIfInBounds_toArray]); (try simp only [List.set_cons_succ]); (try simp only [List.set_cons_zero]))
          (refine wpAnyH_take (i := 10) (v := ?_) rfl (by kernel_rfl) (by kernel_rfl) (by kernel_rfl) (fun _ _ _ h => h) (Or.inl ⟨by rfl, ?_⟩) (by assumption) ?_; rotate_left; (focus (intro w' hSw; go_simp; try with_reducible rfl)); (try simp only [List.getElem_toArray]); (try simp only [List.getElem_cons_succ]); (try simp only [List.getElem_cons_zero]); (try simp only [Act.put]); (try simp only [List.setIfInBounds_toArray]); (try simp only [List.set_cons_succ]); (try simp only [List.set_cons_zero]))
          (refine wpAnyH_take (i := 11) (v := ?_) rfl (by kernel_rfl) (by kernel_rfl) (by kernel_rfl) (fun _ _ _ h => h) (Or.inl ⟨by rfl, ?_⟩) (by assumption) ?_; rotate_left; (focus (intro w' hSw; go_simp; try with_reducible rfl)); (try simp only [List.getElem_toArray]); (try simp only [List.getElem_cons_succ]); (try simp only [List.getElem_cons_zero]); (try simp only [Act.put]); (try simp only [List.setIfInBounds_toArray]); (try simp only [List.set_cons_succ]); (try simp only [List.set_cons_zero]))
          (refine wpAnyH_take (i := 12) (v := ?_) rfl (by kernel_rfl) (by kernel_rfl) (by kernel_rfl) (fun _ _ _ h => h) (Or.inl ⟨by rfl, ?_⟩) (by assumption) ?_; rotate_left; (focus (intro w' hSw; go_simp; try with_reducible rfl)); (try simp only [List.getElem_toArray]); (try simp only [List.getElem_cons_succ]); (try simp only [List.getElem_cons_zero]); (try simp only [Act.put]); (try simp only [List.setIfInBounds_toArray]); (try simp only [List.set_cons_succ]); (try simp only [List.set_cons_zero]))
          (refine wpAnyH_take (i := 13) (v := ?_) rfl (by kernel_rfl) (by kernel_rfl) (by kernel_rfl) (fun _ _ _ h => h) (Or.inl ⟨by rfl, ?_⟩) (by assumption) ?_; rotate_left; (focus (intro w' hSw; go_simp; try with_reducible rfl)); (try simp only [List.getElem_toArray]); (try simp only [List.getElem_cons_succ]); (try simp only [List.getElem_cons_zero]); (try simp only [Act.put]); (try simp only [List.setIfInBounds_toArray]); (try simp only [List.set_cons_succ]); (try simp only [List.set_cons_zero]))
          (refine wpAnyH_take (i := 14) (v := ?_) rfl (by kernel_rfl) (by kernel_rfl) (by kernel_rfl) (fun _ _ _ h => h) (Or.inl ⟨by rfl, ?_⟩) (by assumption) ?_; rotate_left; (focus (intro w' hSw; go_simp; try with_reducible rfl)); (try simp only [List.getElem_toArray]); (try simp only [List.getElem_cons_succ]); (try simp only [List.getElem_cons_zero]); (try simp only [Act.put]); (try simp only [List.setIfInBounds_toArray]); (try simp only [List.set_cons_succ]); (try simp only [List.set_cons_zero]))
          (refine wpAnyH_take (i := 15) (v := ?_) rfl (by kernel_rfl) (by kernel_rfl) (by kernel_rfl) (fun _ _ _ h => h) (Or.inl ⟨by rfl, ?_⟩) (by assumption) ?_; rotate_left; (focus (intro w' hSw; have kc := cell_ext hSw c0; go_simp; try with_reducible rfl)); (try simp only [List.getElem_toArray]); (try simp only [List.getElem_cons_succ]); (try simp only [List.getElem_cons_zero]); (try simp only [Act.put]); (try simp only [List.setIfInBounds_toArray]); (try simp only [List.set_cons_succ]); (try simp only [List.set_cons_zero]))
          (refine wpAnyH_take (i := 16) (v := ?_) rfl (by kernel_rfl) (by kernel_rfl) (by kernel_rfl) (fun _ _ _ h => h) (Or.inl ⟨by rfl, ?_⟩) (by assumption) ?_; rotate_left; (focus (intro w' hSw; go_simp; try with_reducible rfl)); (try simp only [List.getElem_toArray]); (try simp only [List.getElem_cons_succ]); (try simp only [List.getElem_cons_zero]); (try simp only [Act.put]); (try simp only [List.setIfInBounds_toArray]); (try simp only [List.set_cons_succ]); (try simp only [List.set_cons_zero]))
          (refine wpAnyH_take (i := 17) (v := ?_) rfl (by kernel_rfl) (by kernel_rfl) (by kernel_rfl) (fun _ _ _ h => h) (Or.inl ⟨by rfl, ?_⟩) (by assumption) ?_; rotate_left; (focus (intro w' hSw; have kc := (hb.out.ext hSw).two; go_simp; try with_reducible rfl)); (try simp only [List.getElem_toArray]); (try simp only [List.getElem_cons_succ]); (try simp only [List.getElem_cons_zero]); (try simp only [Act.put]); (try simp only [List.setIfInBounds_toArray]); (try simp only [List.set_cons_succ]); (try simp only [List.set_cons_zero]))
          (refine wpAnyH_take (i := 18) (v := ?_) rfl (by kernel_rfl) (by kernel_rfl) (by kernel_rfl) (fun _ _ _ h => h) (Or.inl ⟨by rfl, ?_⟩) (by assumption) ?_; rotate_left; (focus (intro w' hSw; go_simp; try with_reducible rfl)); (try simp only [List.getElem_toArray]); (try simp only [List.getElem_cons_succ]); (try simp only [List.getElem_cons_zero]); (try simp only [Act.put]); (try simp only [List.setIfInBounds_toArray]); (try simp only [List.set_cons_succ]); (try simp only [List.set_cons_zero]))
          (refine wpAnyH_take (i := 19) (v := ?_) rfl (by kernel_rfl) (by kernel_rfl) (by kernel_rfl) (fun _ _ _ h => h) (Or.inl ⟨by rfl, ?_⟩) (by assumption) ?_; rotate_left; (focus (intro w' hSw; go_simp; try with_reducible rfl)); (try simp only [List.getElem_toArray]); (try simp only [List.getElem_cons_succ]); (try simp only [List.getElem_cons_zero]); (try simp only [Act.put]); (try simp only [List.setIfInBounds_toArray]); (try simp only [List.set_cons_succ]); (try simp only [List.set_cons_zero]))
          (refine wpAnyH_take (i := 20) (v := ?_) rfl (by kernel_rfl) (by kernel_rfl) (by kernel_rfl) (fun _ _ _ h => h) (Or.inl ⟨by rfl, ?_⟩) (by assumption) ?_; rotate_left; (focus (intro w' hSw; go_simp; try with_reducible rfl)); (try simp only [List.getElem_toArray]); (try simp only [List.getElem_cons_succ]); (try simp only [List.getElem_cons_zero]); (try simp only [Act.put]); (try simp only [List.setIfInBounds_toArray]); (try simp only [List.set_cons_succ]); (try simp only [List.set_cons_zero]))
          (refine wpAnyH_take (i := 21) (v := ?_) rfl (by kernel_rfl) (by kernel_rfl) (by kernel_rfl) (fun _ _ _ h => h) (Or.inl ⟨by rfl, ?_⟩) (by assumption) ?_; rotate_left; (focus (intro w' hSw; go_simp; try with_reducible rfl)); (try simp only [List.getElem_toArray]); (try simp only [List.getElem_cons_succ]); (try simp only [List.getElem_cons_zero]); (try simp only [Act.put]); (try simp only [List.setIfInBounds_toArray]); (try simp only [List.set_cons_succ]); (try simp only [List.set_cons_zero]))
          (refine wpAnyH_take (i := 22) (v := ?_) rfl (by kernel_rfl) (by kernel_rfl) (by kernel_rfl) (fun _ _ _ h => h) (Or.inl ⟨by rfl, ?_⟩) (by assumption) ?_; rotate_left; (focus (intro w' hSw; have kc := cell_ext (Ext.trans Er hSw) d0; go_simp; try with_reducible rfl)); (try simp only [List.getElem_toArray]); (try simp only [List.getElem_cons_succ]); (try simp only [List.getElem_cons_zero]); (try simp only [Act.put]); (try simp only [List.setIfInBounds_toArray]); (try simp only [List.set_cons_succ]); (try simp only [List.set_cons_zero]))
          (refine wpAnyH_take (i := 23) (v := ?_) rfl (by kernel_rfl) (by kernel_rfl) (by kernel_rfl) (fun _ _ _ h => h) (Or.inl ⟨by rfl, ?_⟩) (by assumption) ?_; rotate_left; (focus (intro w' hSw; go_simp; try with_reducible rfl)); (try simp only [List.getElem_toArray]); (try simp only [List.getElem_cons_succ]); (try simp only [List.getElem_cons_zero]); (try simp only [Act.put]); (try simp only [List.setIfInBounds_toArray]); (try simp only [List.set_cons_succ]); (try simp only [List.set_cons_zero]))
          (refine wpAnyH_take (i := 24) (v := ?_) rfl (by kernel_rfl) (by kernel_rfl) (by kernel_rfl) (fun _ _ _ h => h) (Or.inl ⟨by rfl, ?_⟩) (by assumption) ?_; rotate_left; (focus (intro w' hSw; go_simp; try with_reducible rfl)); (try simp only [List.getElem_toArray]); (try simp only [List.getElem_cons_succ]); (try simp only [List.getElem_cons_zero]); (try simp only [Act.put]); (try simp only [List.setIfInBounds_toArray]); (try simp only [List.set_cons_succ]); (try simp only [List.set_cons_zero]))
          (refine wpAnyH_take (i := 25) (v := ?_) rfl (by kernel_rfl) (by kernel_rfl) (by kernel_rfl) (fun _ _ _ h => h) (Or.inl ⟨by rfl, ?_⟩) (by assumption) ?_; rotate_left; (focus (intro w' hSw; go_simp; try with_reducible rfl)); (try simp only [List.getElem_toArray]); (try simp only [List.getElem_cons_succ]); (try simp only [List.getElem_cons_zero]); (try simp only [Act.put]); (try simp only [List.setIfInBounds_toArray]); (try simp only [List.set_cons_succ]); (try simp only [List.set_cons_zero]))
          refine wpAnyH_done (by kernel_rfl) ?_ _
          go_wp2
          go_roundw
          case rel => exact ⟨k + 2, p.pid, by omega, by go_num, Lib.hid (by rw [HD.out, HS.out, decide_eq_true (show q'.pid < p.pid by omega), decide_eq_true (show p.pid < nx by omega)]; rfl), Lib.hid (.inr ⟨k + 1, p, rfl, hd.out, rfl, by omega⟩), Lib.hid (hb.out.ext (Ext.drew (Ext.refl _))), E04.trans (Ext.drew (Ext.refl _))⟩
          case measure => simp [intOf]; omega
    · go_wp2
      go_ret
      refine ⟨?_, hE⟩
      rw [HR2.out, HD.out, List.drop_of_length_le (by have := HN.out; omega)]
      rfl
end Go.Proofs.YteljobleojhgmaaGreat
namespace Go.Proofs.YteljobleojhgmaaGreat
open Go.RowKit Go.Kb

set_option maxRecDepth 100000 in
set_option maxHeartbeats 800000 in
theorem rget_any {A : Nat → Prop} (Ad : Option Addr) (c : Nat) (l : List Pr) (nx pid : Int) (w : World) (h : RdY Rp A w (.slice Ad l.length c) l) :
    Calls Tryz.prog 57 #[tv Ad l.length c nx, .int .i64 pid] w fun e w' => e = .returned (.tuple #[.agg (getL l nx pid).1.cells.toArray, .bool (getL l nx pid).2]) ∧ Ext w w' := by
  have H := Lib.hid (rdy_pr (B := fun _ => False) h)
  obtain ⟨W, hW⟩ : ∃ W, W = (w.alloc (.cells #[.slice Ad l.length c, .int .i64 nx] 33)).alloc (.cells #[.int .i64 0, .int .i64 0, .int .i64 0, .int .i64 0, .int .i64 0, .int .i64 0, .int .i64 0, .int .u64 0, .int .u64 0, .int .i64 0, .int .i64 0, .int .i64 0, .int .i64 0, .int .i64 0, .int .i64 0, .int .i64 0, .int .i64 0, .int .i64 0, .int .i64 0, .int .i64 0, .int .i64 0, .int .i64 0, .int .i64 0, .int .i64 0, .int .i64 0, .int .i64 0, .int .i64 0, .int .i64 0, .int .i64 0, .int .i64 0, .int .i64 0, .int .i64 0, .int .i64 0, .int .i64 0, .int .i64 0, .int .i64 0, .int .i64 0, .int .i64 0, .int .i64 0, .int .i64 0, .int .i64 0, .int .i64 0, .bool false] 64) := ⟨_, rfl⟩
  have hz := Lib.hid (show Blk W (w.heap.size + 1) 64 zeroP.cells.toArray by rw [hW]; exact zero_rowR _ _ (by simp))
  have ha := Lib.hid (show Blk W w.heap.size 33 #[.slice Ad l.length c, .int .i64 nx] by rw [hW]; exact (Blk.new w _ _).alloc _)
  have E0 : Ext w W := by rw [hW]; exact (by repeat (first | with_reducible exact Ext.refl _ | refine Ext.drewN ?_ _ | refine Ext.drew ?_ | refine Ext.alloc ?_ _ | assumption | (refine Below.trans ?_ (by assumption)) | (refine Ext.trans ?_ (by assumption)) | (refine Below.trans ?_ (Below.mono (by assumption) (by omega)))))
  have HW := Lib.hid hW
  clear h hW
  go_enter Tryz.func57, Tryz.ntmps57
  go_wp2_with fail
  rw [← HW.out]
  refine (place_any Ad c l nx pid _ (H.out.ext E0)).mono ?_
  rintro e w1 ⟨rfl, E1⟩
  have kb := (ha.out.ext E1).two
  have E01 := E0.trans E1
  go_wp2_with fail
  refine (rright_any Ad c l nx _ (H.out.ext E01)).mono ?_
  rintro e w2 ⟨rfl, E2⟩
  have E02 := E01.trans E2
  have hz2 := Lib.hid (hz.out.ext (E1.trans E2))
  have kb2 := (ha.out.ext (E1.trans E2)).two
  clear kb
  cases hr : rightL l nx
  · have HG := Lib.hid (show getL l nx pid = (zeroP, false) by unfold getL; rw [hr]; rfl)
    clear hr
    go_wp2_with ((refine wpList_store_A rfl 64 _ _ rfl (w.heap.size + 1) _ rfl rfl 64 _ hz2.out (by rw [List.size_toArray]; exact i43r' zeroP_ok) (Eq.trans (b := 43) (by rfl) (Eq.symm (show (zeroP).cells.toArray.size = 43 from Pr.size zeroP_ok))) (Pr.one zeroP_ok) ?_); intro w5 H5 E5; have E5 : Ext w w5 := E5 w.heap.size w E02 (by omega))
    refine bodyPost_ret_by (Kb.results_cell_tmp Tryz.results57 _ _ (w.heap.size + 1) 64 _ _ _ rfl _ rfl H5 Tryz.underlying64 rfl (by rw [List.size_toArray]; exact i43r' zeroP_ok)) rfl ?_
    rw [HG.out]
    exact ⟨rfl, E5⟩
  · have hG : getL l nx pid = (match l.find? (fun p => p.pid == pid) with | some p => (p, true) | none => (zeroP, false)) := by unfold getL; rw [hr]; rfl
    clear hr
    rcases idx_lt (f := fun p => p.pid == pid) (l := l) with hx | ⟨j, hx, hlt⟩
    · rw [hx]
      rw [find_none hx] at hG
      have HG := Lib.hid hG
      clear hx hG
      go_wp2_with ((refine wpList_store_A rfl 64 _ _ rfl (w.heap.size + 1) _ rfl rfl 64 _ hz2.out (by rw [List.size_toArray]; exact i43r' zeroP_ok) (Eq.trans (b := 43) (by rfl) (Eq.symm (show (zeroP).cells.toArray.size = 43 from Pr.size zeroP_ok))) (Pr.one zeroP_ok) ?_); intro w5 H5 E5; have E5 : Ext w w5 := E5 w.heap.size w E02 (by omega))
      refine bodyPost_ret_by (Kb.results_cell_tmp Tryz.results57 _ _ (w.heap.size + 1) 64 _ _ _ rfl _ rfl H5 Tryz.underlying64 rfl (by rw [List.size_toArray]; exact i43r' zeroP_ok)) rfl ?_
      rw [HG.out]
      exact ⟨rfl, E5⟩
    · obtain ⟨b, off, p, rfl, hd, hok, hcell⟩ := pr_at (H.out.ext E02) hlt
      rw [hx]
      rw [find_some hx hd.out] at hG
      have HG := Lib.hid hG
      have j0 : ¬ ((j : Int) < 0) := by omega
      have j1 : (0 : Int) ≤ (j : Int) := by omega
      have j2 : (j : Int) < (l.length : Int) := by omega
      clear hx hG hd
      go_wp2_with (first
        | (refine wpList_load_mid rfl 64 _ rfl b (off + j * 43) rfl p.cells _ hcell.out Tryz.underlying64 rfl (i43r' hok) ?_)
        | ((refine wpList_store_A rfl 64 _ _ rfl (w.heap.size + 1) _ rfl rfl 64 _ hz2.out (by rw [List.size_toArray]; exact i43r' hok) (Eq.trans (b := 43) (by rfl) (Eq.symm (show (p).cells.toArray.size = 43 from Pr.size hok))) (Pr.one hok) ?_); intro w5 H5 E5; have E5 : Ext w w5 := E5 w.heap.size w E02 (by omega)))
      refine bodyPost_ret_by (Kb.results_cell_tmp Tryz.results57 _ _ (w.heap.size + 1) 64 _ _ _ rfl _ rfl H5 Tryz.underlying64 rfl (by rw [List.size_toArray]; exact i43r' hok)) rfl ?_
      rw [HG.out]
      exact ⟨rfl, E5⟩
set_option maxRecDepth 100000 in
set_option maxHeartbeats 800000 in
theorem rlive_any {A : Nat → Prop} (Ad : Option Addr) (c : Nat) (l : List Pr) (nx pid : Int) (w : World) (h : RdY Rp A w (.slice Ad l.length c) l) :
    Calls Tryz.prog 99 #[tv Ad l.length c nx, .int .i64 pid] w fun e w' => e = .returned (.bool (liveL l nx pid)) ∧ Ext w w' := by
  have H := Lib.hid (rdy_pr (B := fun _ => False) h)
  have hok := getL_ok (nx := nx) (pid := pid) (RdY.oks h)
  have HL := Lib.hid (live_get (l := l) (nx := nx) (pid := pid))
  have hg := fun w h => rget_any (A := fun _ => False) Ad c l nx pid w h
  obtain ⟨⟨p, b⟩, hp⟩ : ∃ x, getL l nx pid = x := ⟨_, rfl⟩
  rw [hp] at hok HL
  simp only [hp] at hg
  have HG := Lib.hid hg
  clear h hp hg
  go_enter Tryz.func99, Tryz.ntmps99
  go_wp2_with fail
  refine (HG.out _ (H.out.ext (by repeat (first | with_reducible exact Ext.refl _ | refine Ext.drewN ?_ _ | refine Ext.drew ?_ | refine Ext.alloc ?_ _ | assumption | (refine Below.trans ?_ (by assumption)) | (refine Ext.trans ?_ (by assumption)) | (refine Below.trans ?_ (Below.mono (by assumption) (by omega))))))).mono ?_
  rintro e w1 ⟨rfl, E1⟩
  have E01 : Ext w w1 := (by repeat (first | with_reducible exact Ext.refl _ | refine Ext.drewN ?_ _ | refine Ext.drew ?_ | refine Ext.alloc ?_ _ | assumption | (refine Below.trans ?_ (by assumption)) | (refine Ext.trans ?_ (by assumption)) | (refine Below.trans ?_ (Below.mono (by assumption) (by omega)))))
  clear E1
  obtain ⟨n5, hn5⟩ : ∃ n5, w1.heap.size = n5 := ⟨_, rfl⟩
  cases b
  · go_wp2_with ((refine wpList_store_A rfl 64 _ _ rfl (n5) _ rfl rfl 64 _ (zero_rowR w1 n5 hn5) (by rw [List.size_toArray]; exact i43r' hok) (Eq.trans (b := 43) (by rfl) (Eq.symm (show (p).cells.toArray.size = 43 from Pr.size hok))) (Pr.one hok) ?_); intro w4 H2 E4; have E4 : Ext w1 w4 := E4 w1.heap.size w1 ((Ext.refl w1).alloc _) (by omega); have c4 := (prAt_blk hok H2).c4)
    go_ret
    exact ⟨by rw [HL.out]; rfl, E01.trans E4⟩
  · cases hs : (p.state != 3)
    · go_wp2_with ((refine wpList_store_A rfl 64 _ _ rfl (n5) _ rfl rfl 64 _ (zero_rowR w1 n5 hn5) (by rw [List.size_toArray]; exact i43r' hok) (Eq.trans (b := 43) (by rfl) (Eq.symm (show (p).cells.toArray.size = 43 from Pr.size hok))) (Pr.one hok) ?_); intro w4 H2 E4; have E4 : Ext w1 w4 := E4 w1.heap.size w1 ((Ext.refl w1).alloc _) (by omega); have c4 := (prAt_blk hok H2).c4)
      go_ret
      exact ⟨by rw [HL.out, show liveP p = false from hs]; rfl, E01.trans E4⟩
    · go_wp2_with ((refine wpList_store_A rfl 64 _ _ rfl (n5) _ rfl rfl 64 _ (zero_rowR w1 n5 hn5) (by rw [List.size_toArray]; exact i43r' hok) (Eq.trans (b := 43) (by rfl) (Eq.symm (show (p).cells.toArray.size = 43 from Pr.size hok))) (Pr.one hok) ?_); intro w4 H2 E4; have E4 : Ext w1 w4 := E4 w1.heap.size w1 ((Ext.refl w1).alloc _) (by omega); have c4 := (prAt_blk hok H2).c4)
      go_ret
      exact ⟨by rw [HL.out, show liveP p = true from hs]; rfl, E01.trans E4⟩
end Go.Proofs.YteljobleojhgmaaGreat
namespace Go.Proofs.YteljobleojhgmaaGreat
open Go.RowKit Go.Kb

theorem own_atR {base G n c j : Nat} {B : Nat → Prop} {w : World} {l : List Pr} {p : Pr} (h : OwnS Rp 64 base B w (.slice (some ⟨G, 0, none⟩) n c) l) (hp : l[j]? = some p) : p.ok ∧ base ≤ G ∧ G < w.heap.size ∧ PrAt w G (j * 43) p ∧ (∀ o, w.frozen? ⟨G, o, none⟩ = false) ∧ ∀ i u, p.cells[i]? = some u → w.cell? ⟨G, j * 43 + i, none⟩ = some u := by
  have hj : j < l.length := (List.getElem?_eq_some_iff.1 hp).1
  obtain ⟨_, _, hv, _⟩ := h.shape
  simp only [Value.slice.injEq] at hv
  obtain ⟨-, hl, -⟩ := hv
  obtain ⟨b, off, q, hb, hd, hok, hc⟩ := pr_at h.y (show j < n by omega)
  cases hb
  rw [hp] at hd
  have hq : p = q := by have := hd.out; cases this; rfl
  subst hq
  have hc := hc.out
  simp only [Nat.zero_add] at hc
  have hf := (h.addr (by omega))
  obtain ⟨g, hg, _, hfr⟩ := hf
  cases hg
  obtain ⟨h1, h2⟩ := h.row G rfl
  exact ⟨hok, h1, h2, prAt_of hok hc, hfr, hc⟩
theorem own_rowR {base G n c j : Nat} {w : World} {l : List Pr} {p' : Pr} (h : OwnS Rp 64 base (fun _ => False) w (.slice (some ⟨G, 0, none⟩) n c) l) (hj : j < n) (hk : p'.ok) :
    OwnS Rp 64 base (fun _ => False) (w.setCells G (j * 43) p'.cells) (.slice (some ⟨G, 0, none⟩) n c) (l.set j p') := by
  obtain ⟨us, ho, he⟩ := h
  have hln := own_len ho
  obtain ⟨hul, ⟨hv, _⟩ | ⟨g', cap, cur, hv, hb0, hb, hcap, hmax, hcs, htk⟩⟩ := ho
  · cases hv
  cases hv
  clear hln
  have hul : us.length = l.length * 43 := hul
  have hcs : cur.size = c * 43 := hcs
  have htk : List.take (l.length * 43) cur.toList = us := htk
  have hb : Blk w G 64 cur := hb
  have hpl := Pr.len hk
  have hB := Blk.setCells p'.cells (j * 43) w cur hb (by rw [hpl, hcs]; omega)
  have htl : (cur.toList.take (j * 43)).length = j * 43 := by simp; omega
  have hset : l.set j p' = l.take j ++ ([p'] ++ l.drop (j + 1)) := by rw [List.set_eq_take_append_cons_drop, if_pos hj]; rfl
  refine ⟨us.take (j * 43) ++ (p'.cells ++ us.drop ((j + 1) * 43)), ⟨?_, .inr ⟨G, c, _, by rw [List.length_set], hb0, hB, by rw [List.length_set]; exact hcap, hmax, ?_, ?_⟩⟩, ?_⟩
  · rw [List.length_set, List.length_append, List.length_append, List.length_take, List.length_drop, hpl, hul]
    show _ = l.length * 43
    omega
  · rw [List.size_toArray, List.length_append, List.length_append, htl, hpl, List.length_drop, Array.length_toList, hcs]
    show _ = c * 43
    omega
  · rw [List.length_set]
    show ((cur.toList.take (j * 43) ++ p'.cells) ++ cur.toList.drop (j * 43 + p'.cells.length)).take (l.length * 43) = _
    rw [← htk, hpl, mid_take cur.toList p'.cells (j * 43) 43 (l.length * 43) hpl (by omega) (by have : cur.toList.length = cur.size := rfl; omega), Nat.add_mul, Nat.one_mul]
  · rw [hset]
    have e1 := he.take j (by omega)
    have e2 := he.drop (j + 1)
    exact RdE.keep (RdE.append e1 (RdE.append (RdE.single (rp_rel _ w hk)) e2)) fun k _ hk => hk.1.elim
theorem seen_get {l : List Pr} {nx g : Int} {p : Pr} (hr : rightL l nx = true) : seenP l g p = (liveL l nx p.parent && ((getL l nx p.parent).1.session == p.session && (getL l nx p.parent).1.group != g)) := by
  rw [live_get]
  unfold seenP getL
  rw [hr]
  simp only [if_true]
  obtain ⟨_, _, hri⟩ := right_rise hr
  cases hf : l.find? (fun q => q.pid == p.parent && liveP q) with
  | none =>
    rw [List.find?_eq_none] at hf
    cases hf2 : l.find? (fun q => q.pid == p.parent) with
    | none => rfl
    | some q =>
      have h1 := List.mem_of_find?_eq_some hf2
      have h2 := List.find?_some hf2
      have h3 := hf q h1
      simp only [h2, Bool.true_and, Bool.not_eq_true] at h3
      simp [h3]
  | some q =>
    have h1 := List.mem_of_find?_eq_some hf
    have h2 := List.find?_some hf
    simp only [Bool.and_eq_true, beq_iff_eq] at h2
    have h3 := rise_find hri q h1
    rw [h2.1] at h3
    rw [h3]
    simp [h2.2]
set_option maxRecDepth 100000 in
set_option maxHeartbeats 800000 in
theorem rmembers_any {A : Nat → Prop} (Ad : Option Addr) (c : Nat) (l : List Pr) (nx group : Int) (w : World) (h : RdY Rp A w (.slice Ad l.length c) l) :
    Calls Tryz.prog 97 #[tv Ad l.length c nx, .int .i64 group] w fun e w' => ∃ A' c', e = .returned (.slice A' (memL l nx group).length c') ∧ OwnS Ib 3 w.heap.size (fun _ => False) w' (.slice A' (memL l nx group).length c') (memL l nx group) ∧ Ext w w' := by
  have H := Lib.hid (rdy_pr (B := fun _ => False) h)
  have hbox := Lib.hid (Blk.new w 33 #[.slice Ad l.length c, .int .i64 nx])
  have E0 : Ext w (w.alloc (.cells #[.slice Ad l.length c, .int .i64 nx] 33)) := (by repeat (first | with_reducible exact Ext.refl _ | refine Ext.drewN ?_ _ | refine Ext.drew ?_ | refine Ext.alloc ?_ _ | assumption | (refine Below.trans ?_ (by assumption)) | (refine Ext.trans ?_ (by assumption)) | (refine Below.trans ?_ (Below.mono (by assumption) (by omega)))))
  obtain ⟨_, _, hv, hc1, _⟩ := h.shape
  simp only [Value.slice.injEq] at hv
  obtain ⟨-, -, rfl⟩ := hv
  clear h
  go_enter Tryz.func97, Tryz.ntmps97
  go_wp2_with fail
  refine (rright_any Ad c l nx _ (H.out.ext E0)).mono ?_
  rintro e w1 ⟨rfl, E1⟩
  have E01 : Ext w w1 := E0.trans E1
  have kb := (hbox.out.ext E1).two
  clear E1 E0
  cases hr : rightL l nx
  · have HM := Lib.hid (show memL l nx group = [] by unfold memL; rw [hr]; rfl)
    clear hr
    go_wp2
    go_ret
    rw [HM.out]
    exact ⟨none, 0, rfl, OwnS.nil _ _ _ _ _, E01⟩
  · have hl := (right_len hr).1
    have HM := Lib.hid (show memL l nx group = (l.filter (ofP group)).map (·.pid) by unfold memL; rw [hr]; rfl)
    obtain ⟨N, hN⟩ : ∃ N, l.length = N := ⟨_, rfl⟩
    rw [hN] at H hl hc1 kb ⊢
    have HN := Lib.hid hN
    have H1 := Lib.hid (H.out.ext E01)
    clear hr hN hbox
    go_wp2
    go_loopw [5, 14] (fun o i wr => ∃ (m k c' : Nat) (A' : Option Addr), m ≤ N ∧ i = .int .i64 m ∧ o = .slice A' k c' ∧ k ≤ m ∧ Hid (((ofN group l m).map (·.pid)).length = k) ∧ Hid (OwnS Ib 3 w1.heap.size (fun _ => False) wr (.slice A' k c') ((ofN group l m).map (·.pid))) ∧ Ext w1 wr) (fun _ i _ => N - (intOf i).toNat)
    case atStart => exact ⟨0, 0, 0, none, Nat.zero_le _, rfl, rfl, Nat.le_refl _, Lib.hid rfl, Lib.hid (OwnS.nil _ _ _ _ _), Ext.refl _⟩
    case round =>
      obtain ⟨m, k, c', A', hm, rfl, rfl, hk, HK, O, hE⟩ := hrel
      by_cases hmn : m < N
      · obtain ⟨b, off, p, rfl, hd, hok, hcell⟩ := pr_at (H1.out.ext hE) hmn
        have hws := hE.size
        obtain ⟨n7, hn7⟩ : ∃ n7, wr.heap.size = n7 := ⟨_, rfl⟩
        cases hlv : ofP group p
        · have HY := Lib.hid (show (ofN group l (m + 1)).map (·.pid) = (ofN group l m).map (·.pid) by rw [ofN_no hd.out hlv])
          have hlp := hlv
          unfold ofP at hlp
          clear hlv hd
          cases hg : (p.group == group)
          · clear hlp
            go_wp2_with (first
              | (refine wpList_load_mid rfl 64 _ rfl b (off + m * 43) rfl p.cells _ hcell.out Tryz.underlying64 rfl (i43r' hok) ?_)
              | ((refine wpList_store_A rfl 64 _ _ rfl (n7) _ rfl rfl 64 _ (zero_rowR wr n7 hn7) (by rw [List.size_toArray]; exact i43r' hok) (Eq.trans (b := 43) (by rfl) (Eq.symm (show (p).cells.toArray.size = 43 from Pr.size hok))) (Pr.one hok) ?_); intro w2 H2 E2; have E2 : Ext wr w2 := E2 wr.heap.size wr ((Ext.refl wr).alloc _) (by omega); have c2 := (prAt_blk hok H2).c2))
            go_roundw
            case rel => exact ⟨m + 1, k, c', A', by omega, by go_num, rfl, by omega, Lib.hid (by rw [HY.out, HK.out]), Lib.hid (by rw [HY.out]; exact O.out.ext E2), hE.trans E2⟩
            case measure => simp [intOf]; omega
          · have hst : (p.state != 3) = false := by rw [hg, Bool.and_true] at hlp; exact hlp
            clear hlp
            go_wp2_with (first
              | (refine wpList_load_mid rfl 64 _ rfl b (off + m * 43) rfl p.cells _ hcell.out Tryz.underlying64 rfl (i43r' hok) ?_)
              | ((refine wpList_store_A rfl 64 _ _ rfl (n7) _ rfl rfl 64 _ (zero_rowR wr n7 hn7) (by rw [List.size_toArray]; exact i43r' hok) (Eq.trans (b := 43) (by rfl) (Eq.symm (show (p).cells.toArray.size = 43 from Pr.size hok))) (Pr.one hok) ?_); intro w2 H2 E2; have E2 : Ext wr w2 := E2 wr.heap.size wr ((Ext.refl wr).alloc _) (by omega); have c2 := (prAt_blk hok H2).c2; have c4 := (prAt_blk hok H2).c4))
            go_roundw
            case rel => exact ⟨m + 1, k, c', A', by omega, by go_num, rfl, by omega, Lib.hid (by rw [HY.out, HK.out]), Lib.hid (by rw [HY.out]; exact O.out.ext E2), hE.trans E2⟩
            case measure => simp [intOf]; omega
        · have HY := Lib.hid (show (ofN group l (m + 1)).map (·.pid) = (ofN group l m).map (·.pid) ++ [p.pid] by rw [ofN_yes hd.out hlv]; simp)
          have hlp := hlv
          unfold ofP at hlp
          simp only [Bool.and_eq_true] at hlp
          obtain ⟨hst, hg⟩ := hlp
          have hst : (p.state != 3) = true := hst
          clear hlv hd
          go_wp2_with (first
            | (refine wpList_load_mid rfl 64 _ rfl b (off + m * 43) rfl p.cells _ hcell.out Tryz.underlying64 rfl (i43r' hok) ?_)
            | ((refine wpList_store_A rfl 64 _ _ rfl (n7) _ rfl rfl 64 _ (zero_rowR wr n7 hn7) (by rw [List.size_toArray]; exact i43r' hok) (Eq.trans (b := 43) (by rfl) (Eq.symm (show (p).cells.toArray.size = 43 from Pr.size hok))) (Pr.one hok) ?_); intro w4 H2 E4; have E4 : Ext wr w4 := E4 wr.heap.size wr ((Ext.refl wr).alloc _) (by omega); have c2 := (prAt_blk hok H2).c2; have c4 := (prAt_blk hok H2).c4; have c0 := (prAt_blk hok H2).c0; have hws4 := E4.size)
            | (at_builtin; refine wpList_app (e := Ib) (base := w1.heap.size) (B := fun _ => False) (A := fun _ => False) rfl (.tmp 27) (.tmp 30) rfl Tryz.underlying62 info_i64 rfl ((O.out.ext E4).alloc _) rfl (RdY.singleB (e := Ib) (cs := [.int .i64 p.pid]) (d := p.pid) rfl (Blk.at_ _ _ rfl)) rfl (fun _ _ h => h.elim) (N := k + 1) (by rw [HK.out]; rfl) (by simp [maxLen]; omega) (by omega) (by simp; omega) ?_; intro A5 c5 w5 o5 M5 D5))
          have E5 : Ext w1 w5 := Below.trans ((hE.trans E4).alloc _) D5
          have o5 := Lib.hid o5
          clear M5 D5
          go_roundw
          case rel => exact ⟨m + 1, k + 1, c5, A5, by omega, by go_num, rfl, by omega, Lib.hid (by rw [HY.out, List.length_append, HK.out]; rfl), Lib.hid (by rw [HY.out]; exact o5.out), E5⟩
          case measure => simp [intOf]; omega
      · obtain rfl : m = N := by omega
        have hf : (ofN group l m).map (·.pid) = memL l nx group := by rw [HM.out]; unfold ofN; rw [← HN.out, List.take_length]
        have O2 := O.out
        have hk2 := HK.out
        rw [hf] at O2 hk2
        have O2 := Lib.hid O2
        have HK2 := Lib.hid hk2
        clear hk2 hf
        go_wp2
        go_ret
        rw [HK2.out]
        exact ⟨A', c', rfl, O2.out.lower E01.size, E01.trans hE⟩
end Go.Proofs.YteljobleojhgmaaGreat
namespace Go.Proofs.YteljobleojhgmaaGreat
open Go.RowKit Go.Kb

/-- what the loop asks of a member -/
def seenK (l : List Pr) (g k : Int) : Bool := match l.find? (fun q => q.pid == k) with
  | none => false
  | some p => seenP l g p
theorem orph_mem {l : List Pr} {nx g : Int} (hr : rightL l nx = true) : orphL l nx g = !(memL l nx g).any (seenK l g) := by
  unfold orphL memL
  rw [hr]
  simp only [Bool.true_and, if_true, List.any_map]
  congr 1
  obtain ⟨_, _, hri⟩ := right_rise hr
  rw [Bool.eq_iff_iff, List.any_eq_true, List.any_eq_true]
  constructor
  · rintro ⟨p, hp, h⟩
    refine ⟨p, hp, ?_⟩
    show seenK l g p.pid = true
    unfold seenK
    rw [rise_find hri p (List.mem_filter.1 hp).1]
    exact h
  · rintro ⟨p, hp, h⟩
    refine ⟨p, hp, ?_⟩
    have h : seenK l g p.pid = true := h
    unfold seenK at h
    rw [rise_find hri p (List.mem_filter.1 hp).1] at h
    exact h
theorem mem_at {l : List Pr} {nx g : Int} (hr : rightL l nx = true) {m : Nat} {x : Int} (h : (memL l nx g)[m]? = some x) : ∃ p ∈ l, p.pid = x ∧ p.group = g ∧ liveP p = true ∧ getL l nx x = (p, true) ∧ seenK l g x = (liveL l nx p.parent && ((getL l nx p.parent).1.session == p.session && (getL l nx p.parent).1.group != p.group)) := by
  unfold memL at h
  rw [hr] at h
  simp only [if_true] at h
  have hx := List.mem_of_getElem? h
  obtain ⟨p, hp, rfl⟩ := List.mem_map.1 hx
  obtain ⟨h1, h2⟩ := List.mem_filter.1 hp
  unfold ofP at h2
  simp only [Bool.and_eq_true, beq_iff_eq] at h2
  obtain ⟨_, _, hri⟩ := right_rise hr
  refine ⟨p, h1, rfl, h2.2, h2.1, right_get hr h1, ?_⟩
  unfold seenK
  rw [rise_find hri p h1, ← h2.2]
  exact seen_get hr
set_option maxRecDepth 100000 in
set_option maxHeartbeats 800000 in
theorem rorphaned_any {A : Nat → Prop} (Ad : Option Addr) (c : Nat) (l : List Pr) (nx g : Int) (w : World) (h : RdY Rp A w (.slice Ad l.length c) l) :
    Calls Tryz.prog 63 #[tv Ad l.length c nx, .int .i64 g] w fun e w' => e = .returned (.bool (orphL l nx g)) ∧ Ext w w' := by
  have H := Lib.hid (rdy_pr (B := fun _ => False) h)
  have hoks := Lib.hid (RdY.oks h)
  have hbox := Lib.hid (Blk.new w 33 #[.slice Ad l.length c, .int .i64 nx])
  have E0 : Ext w (w.alloc (.cells #[.slice Ad l.length c, .int .i64 nx] 33)) := (by repeat (first | with_reducible exact Ext.refl _ | refine Ext.drewN ?_ _ | refine Ext.drew ?_ | refine Ext.alloc ?_ _ | assumption | (refine Below.trans ?_ (by assumption)) | (refine Ext.trans ?_ (by assumption)) | (refine Below.trans ?_ (Below.mono (by assumption) (by omega)))))
  clear h
  go_enter Tryz.func63, Tryz.ntmps63
  go_wp2_with fail
  refine (rright_any Ad c l nx _ (H.out.ext E0)).mono ?_
  rintro e w1 ⟨rfl, E1⟩
  have E01 : Ext w w1 := E0.trans E1
  have hb1 := Lib.hid (hbox.out.ext E1)
  have kb := hb1.out.two
  clear E1 E0 hbox
  cases hr : rightL l nx
  · have HM := Lib.hid (show orphL l nx g = false by unfold orphL; rw [hr]; rfl)
    clear hr
    go_wp2
    go_ret
    exact ⟨by rw [HM.out]; rfl, E01⟩
  · have HR := Lib.hid hr
    have HO := Lib.hid (orph_mem (g := g) hr)
    clear hr
    go_wp2_with fail
    refine (rmembers_any Ad c l nx g _ (H.out.ext E01)).mono ?_
    rintro e w2 ⟨A2, c2, rfl, O2, E2⟩
    have hb2 := Lib.hid (hb1.out.ext E2)
    have E02 := E01.trans E2
    obtain ⟨M, hM⟩ : ∃ M, memL l nx g = M := ⟨_, rfl⟩
    rw [hM] at O2 HO ⊢
    obtain ⟨K, hK⟩ : ∃ K, M.length = K := ⟨_, rfl⟩
    rw [hK] at O2 ⊢
    have HM := Lib.hid hM
    have HK := Lib.hid hK
    have O2 := Lib.hid O2
    have hg1 := Lib.hid (fun x w h => rget_any (A := fun _ => False) Ad c l nx x w h)
    have hg2 := Lib.hid (fun x w h => rlive_any (A := fun _ => False) Ad c l nx x w h)
    have hK32 : K ≤ 32 := by
      rw [← hK, ← hM]
      unfold memL
      rw [HR.out]
      simp only [if_true, List.length_map]
      exact Nat.le_trans (List.length_filter_le _ _) (right_len HR.out).1
    clear hM hK kb
    go_wp2
    go_loopw [18] (fun i wr => ∃ m : Nat, m ≤ K ∧ i = .int .i64 m ∧ Hid (∀ x ∈ M.take m, seenK l g x = false) ∧ Ext w2 wr) (fun i _ => K - (intOf i).toNat)
    case atStart => exact ⟨0, Nat.zero_le _, rfl, Lib.hid (by simp), Ext.refl _⟩
    case round =>
      obtain ⟨m, hm, rfl, HD, hE⟩ := hrel
      by_cases hmn : m < K
      · obtain ⟨b, off, u, x, rfl, hc, hd, hu⟩ := RdY.at1 (O2.out.ext hE).y rfl hmn
        have hu : [u] = [Value.int .i64 x] := hu.out
        cases hu
        obtain ⟨p, hpl, hpx, hpg, _, hget, hseen⟩ := mem_at (g := g) HR.out (show (memL l nx g)[m]? = some x by rw [HM.out]; exact hd.out)
        have hok := hoks.out p hpl
        have HX := Lib.hid hd.out
        have hb3 := Lib.hid (hb2.out.ext hE)
        have kb := hb3.out.two
        have Hw := Lib.hid (H.out.ext (E02.trans hE))
        have hgp := hg1.out x wr Hw.out
        rw [hget] at hgp
        have HGP := Lib.hid hgp
        obtain ⟨⟨up, ob⟩, hup⟩ : ∃ y, getL l nx p.parent = y := ⟨_, rfl⟩
        have huok : up.ok := by have := getL_ok (nx := nx) (pid := p.parent) hoks.out; rw [hup] at this; exact this
        rw [hup] at hseen
        have hg3 := fun w h => hg1.out p.parent w h
        simp only [hup] at hg3
        have HG3 := Lib.hid hg3
        have HS := Lib.hid hseen
        clear hd hget hgp hup hg3 hseen hpg hpx hpl
        have Hc := hc
        go_wp2_with fail
        refine HGP.out.mono ?_
        rintro e w3 ⟨rfl, E3⟩
        have kb := (hb3.out.ext E3).two
        obtain ⟨n7, hn7⟩ : ∃ n7, w3.heap.size = n7 := ⟨_, rfl⟩
        go_wp2_with ((refine wpList_store_A rfl 64 _ _ rfl (n7) _ rfl rfl 64 _ (zero_rowR w3 n7 hn7) (by rw [List.size_toArray]; exact i43r' hok) (Eq.trans (b := 43) (by rfl) (Eq.symm (show (p).cells.toArray.size = 43 from Pr.size hok))) (Pr.one hok) ?_); intro w4 H4 E4; have E34 : Ext w3 w4 := E4 w3.heap.size w3 ((Ext.refl w3).alloc _) (by omega); have H4 := Lib.hid H4; have kb := (hb3.out.ext (E3.trans E34)).two; have c1 := (prAt_blk hok H4.out).c1; clear E4)
        have Er4 := E3.trans E34
        refine (HG3.out _ (Hw.out.ext Er4)).mono ?_
        rintro e w5 ⟨rfl, E5⟩
        have Er5 := Er4.trans E5
        have kb := (hb3.out.ext Er5).two
        have c1 := cell_ext E5 c1
        obtain ⟨n9, hn9⟩ : ∃ n9, w5.heap.size = n9 := ⟨_, rfl⟩
        have h79 : n7 < n9 := by have := (H4.out.ext E5).lt; omega
        go_wp2_with ((refine wpList_store_A rfl 64 _ _ rfl (n9) _ rfl rfl 64 _ (zero_rowR w5 n9 hn9) (by rw [List.size_toArray]; exact i43r' huok) (Eq.trans (b := 43) (by rfl) (Eq.symm (show (up).cells.toArray.size = 43 from Pr.size huok))) (Pr.one huok) ?_); intro w6 H6 E6; have E56 : Ext w5 w6 := E6 w5.heap.size w5 ((Ext.refl w5).alloc _) (by omega); have H6 := Lib.hid H6; have kb := (hb3.out.ext (Er5.trans E56)).two; have c1 := cell_ext E56 c1; clear E6)
        have Er6 := Er5.trans E56
        refine (hg2.out p.parent _ (Hw.out.ext Er6)).mono ?_
        rintro e w7 ⟨rfl, E7⟩
        have hat := (prAt_blk hok H4.out).ext ((E5.trans E56).trans E7)
        have hau := (prAt_blk huok H6.out).ext E7
        have p2 := hat.c2
        have p3 := hat.c3
        have u2 := hau.c2
        have u3 := hau.c3
        have Er7 := Er6.trans E7
        have E07 := hE.trans Er7
        clear hat hau kb c1 hn7 hn9
        cases hlv : liveL l nx p.parent
        · have HF := Lib.hid (show seenK l g x = false by rw [HS.out, hlv]; rfl)
          clear hlv
          go_wp2
          go_roundw
          case rel => exact ⟨m + 1, by omega, by go_num, Lib.hid (by
            rw [List.take_add_one, HX.out]
            intro q hq
            rcases List.mem_append.1 hq with h | h
            · exact HD.out q h
            · simp at h; rw [h]; exact HF.out), E07⟩
          case measure => simp [intOf]; omega
        · cases hss : (up.session == p.session)
          · have HF := Lib.hid (show seenK l g x = false by rw [HS.out, hlv]; simp [hss])
            clear hlv
            go_wp2
            go_roundw
            case rel => exact ⟨m + 1, by omega, by go_num, Lib.hid (by
              rw [List.take_add_one, HX.out]
              intro q hq
              rcases List.mem_append.1 hq with h | h
              · exact HD.out q h
              · simp at h; rw [h]; exact HF.out), E07⟩
            case measure => simp [intOf]; omega
          · cases hgg : (up.group != p.group)
            · have HF := Lib.hid (show seenK l g x = false by rw [HS.out, hlv]; simp only [hss, hgg]; rfl)
              clear hlv
              go_wp2
              go_roundw
              case rel => exact ⟨m + 1, by omega, by go_num, Lib.hid (by
                rw [List.take_add_one, HX.out]
                intro q hq
                rcases List.mem_append.1 hq with h | h
                · exact HD.out q h
                · simp at h; rw [h]; exact HF.out), E07⟩
              case measure => simp [intOf]; omega
            · have HF := Lib.hid (show orphL l nx g = false by
                rw [HO.out, List.any_eq_true.2 ⟨x, List.mem_of_getElem? HX.out, by rw [HS.out, hlv]; simp only [hss, hgg]; rfl⟩]; rfl)
              clear hlv
              go_wp2
              go_ret
              exact ⟨by rw [HF.out]; rfl, E02.trans E07⟩
      · have HF := Lib.hid (show orphL l nx g = true by
          rw [HO.out]
          have : M.any (seenK l g) = false := by
            rw [List.any_eq_false]
            intro x hx
            have := HD.out x (by rw [List.take_of_length_le (by have := HK.out; omega)]; exact hx)
            simp [this]
          rw [this]; rfl)
        go_wp2
        go_ret
        exact ⟨by rw [HF.out]; rfl, E02.trans hE⟩
end Go.Proofs.YteljobleojhgmaaGreat
namespace Go.Proofs.YteljobleojhgmaaGreat
open Go.RowKit Go.Kb

def RSetPost (l : List Pr) (nx : Int) (q : Pr) (w : World) (e : Ending) (w' : World) : Prop :=
  Ext w w' ∧ ((rightL l nx = false ∧ e = .returned (tv none 0 0 0)) ∨ (rightL l nx = true ∧ ∃ A' c', e = .returned (tv A' l.length c' nx) ∧ OwnS Rp 64 w.heap.size (fun _ => False) w' (.slice A' l.length c') (changeL (fun _ => q) q.pid l)))
set_option maxRecDepth 100000 in
set_option maxHeartbeats 800000 in
theorem rset_any {A : Nat → Prop} (Ad : Option Addr) (c : Nat) (l : List Pr) (nx : Int) (q : Pr) (w : World) (h : RdY Rp A w (.slice Ad l.length c) l) (hq : q.ok) :
    Calls Tryz.prog 60 #[tv Ad l.length c nx, .agg q.cells.toArray] w (RSetPost l nx q w) := by
  have H := Lib.hid (rdy_pr (B := fun _ => False) h)
  obtain ⟨W, hW⟩ : ∃ W, W = ((w.alloc (.cells #[.slice Ad l.length c, .int .i64 nx] 33)).alloc (.cells q.cells.toArray 64)).alloc (.cells #[.slice none 0 0, .int .i64 0] 33) := ⟨_, rfl⟩
  have hres := Lib.hid (show Blk W (w.heap.size + 1 + 1) 33 #[.slice none 0 0, .int .i64 0] by rw [hW]; exact Blk.at_ _ _ (by simp))
  have hp := Lib.hid (show Blk W (w.heap.size + 1) 64 q.cells.toArray by rw [hW]; exact (Blk.at_ _ _ (by simp)).alloc _)
  have hbox := Lib.hid (show Blk W w.heap.size 33 #[.slice Ad l.length c, .int .i64 nx] by rw [hW]; exact ((Blk.new w _ _).alloc _).alloc _)
  have E0 : Ext w W := by rw [hW]; exact (by repeat (first | with_reducible exact Ext.refl _ | refine Ext.drewN ?_ _ | refine Ext.drew ?_ | refine Ext.alloc ?_ _ | assumption | (refine Below.trans ?_ (by assumption)) | (refine Ext.trans ?_ (by assumption)) | (refine Below.trans ?_ (Below.mono (by assumption) (by omega)))))
  have hsz := Lib.hid (show W.heap.size = w.heap.size + 3 by rw [hW]; simp)
  have HW := Lib.hid hW
  clear h hW
  go_enter Tryz.func60, Tryz.ntmps60
  go_wp2_with fail
  rw [← HW.out]
  refine (rright_any Ad c l nx W (H.out.ext E0)).mono ?_
  rintro e w1 ⟨rfl, E1⟩
  have E01 := E0.trans E1
  have kb := (hbox.out.ext E1).two
  have ks := (hres.out.ext E1).two
  cases hr : rightL l nx
  · have HR := Lib.hid hr
    have hM7 : Mod (fun k => k = w.heap.size + 1 + 1) w1 _ := ((Mod.refl _ w1).set1 (.slice none 0 0) (o := 0)).set1 (.int .i64 0) (o := 1)
    obtain ⟨q0, q1, _, _⟩ := ((hres.out.ext E1).put2 (.slice none 0 0) (.int .i64 0)).two
    clear hr
    go_wp2
    refine bodyPost_ret (v := tv none 0 0 0) (by simp [results, Tryz.results60, go_sem, q0, q1]) rfl ?_
    exact ⟨Mod.toExt E01 hM7 (by intro k hk he; omega), .inl ⟨HR.out, rfl⟩⟩
  · have HR := Lib.hid hr
    have HL := Lib.hid (right_len hr).1
    have hcp := rcopy_any (A := fun _ => False) Ad c l nx w1 (H.out.ext E01) (by have := HL.out; omega)
    obtain ⟨N, hN⟩ : ∃ N, l.length = N := ⟨_, rfl⟩
    rw [hN] at hcp kb HL H ⊢
    have HCP := Lib.hid hcp
    have HN := Lib.hid hN
    clear hr hcp ks
    go_wp2_with fail
    refine HCP.out.mono ?_
    rintro e w2 ⟨A2, c2, rfl, O2, E2⟩
    have E02 := E01.trans E2
    have EW2 := E1.trans E2
    have hz2 := Lib.hid (show w.heap.size + 3 ≤ w1.heap.size by have := hsz.out; have := E1.size; omega)
    have hrw := Lib.hid O2.row
    have kb := (hbox.out.ext EW2).two
    have MM : Mod (fun k => k = w.heap.size) w2 _ := ((Mod.refl _ w2).set1 (.slice A2 N c2) (o := 0)).set1 (.int .i64 nx) (o := 1)
    rw [HN.out] at hbox
    have B3 := Lib.hid ((hbox.out.ext EW2).put2 (.slice A2 N c2) (.int .i64 nx))
    have P3 := Lib.hid ((hp.out.ext EW2).mod MM (by show ¬ _ = _; omega))
    have S3 := Lib.hid ((hres.out.ext EW2).mod MM (by show ¬ _ = _; omega))
    have O3 := Lib.hid (O2.mod MM (fun k hk he => by have := (hrw.out k hk).1; have := hz2.out; omega) (fun k _ hk he => hk))
    have E03 : Ext w _ := Mod.toExt E02 MM (by intro k hk he; omega)
    have hz3 := Lib.hid (Nat.le_trans E2.size MM.size)
    have k0 := (prAt_blk hq P3.out).c0
    clear MM O2 E2
    go_wp2_with fail
    clear k0 kb
    generalize (w2.setCell _ _).setCell _ _ = W3 at *
    have hpl := place_any (A := fun _ => False) A2 c2 l nx q.pid W3 (by rw [HN.out]; exact rdy_pr O3.out.y)
    rw [HN.out] at hpl
    refine hpl.mono ?_
    clear hpl
    rintro e w4 ⟨rfl, E4⟩
    have E04 := E03.trans E4
    have B4 := Lib.hid (B3.out.ext E4)
    have P4 := Lib.hid (P3.out.ext E4)
    have S4 := Lib.hid (S3.out.ext E4)
    have O4 := Lib.hid (O3.out.ext E4)
    have hz4 : w.heap.size + 3 ≤ w4.heap.size := Nat.le_trans hz2.out (Nat.le_trans hz3.out E4.size)
    rcases idx_lt (f := fun p => p.pid == q.pid) (l := l) with hx | ⟨j, hx, hlt⟩
    · rw [hx]
      have HX := Lib.hid (changeL_none (g := fun _ => q) hx)
      have kb := B4.out.two
      have ks := S4.out.two
      have hM7 : Mod (fun k => k = w.heap.size + 1 + 1) w4 _ := ((Mod.refl _ w4).set1 (.slice A2 N c2) (o := 0)).set1 (.int .i64 nx) (o := 1)
      obtain ⟨q0, q1, _, _⟩ := (S4.out.put2 (.slice A2 N c2) (.int .i64 nx)).two
      have hr4 := Lib.hid O4.out.row
      clear hx
      go_wp2
      refine bodyPost_ret (v := tv A2 N c2 nx) (by simp [results, Tryz.results60, go_sem, q0, q1]) rfl ?_
      refine ⟨Mod.toExt E04 hM7 (by intro k hk he; omega), .inr ⟨HR.out, A2, c2, by rw [HN.out], ?_⟩⟩
      rw [HN.out, HX.out]
      exact (O4.out.mod hM7 (fun k hk he => by have := (hr4.out k hk).1; have := hz2.out; omega) (fun k _ hk _ => hk)).lower (by have := hz2.out; omega)
    · rw [hx]
      obtain ⟨p, hpj⟩ : ∃ p, l[j]? = some p := ⟨_, List.getElem?_eq_getElem hlt⟩
      have HX := Lib.hid (changeL_some (g := fun _ => q) hx hpj)
      rw [HN.out] at hlt
      obtain ⟨g, rfl, hgb, _⟩ := O4.out.addr (by omega)
      obtain ⟨hpok, hG, hGlt, _, hfr, hcl⟩ := own_atR O4.out hpj
      have hth : w4.there g (j * 43) 43 := fun t ht => ⟨by rw [hcl t _ (List.getElem?_eq_getElem (by rw [Pr.len hpok]; exact ht))]; rfl, hfr _⟩
      have O5 := Lib.hid (own_rowR O4.out hlt hq)
      have M5 : Mod (fun k => k = g) w4 (w4.setCells g (j * 43) q.cells) := Mod.setCells q.cells (j * 43) w4 w4 (Mod.refl _ _)
      have hz22 := hz2.out
      have B5 := Lib.hid (B4.out.mod M5 (by show ¬ _ = _; omega))
      have S5 := Lib.hid (S4.out.mod M5 (by show ¬ _ = _; omega))
      have E05 : Ext w _ := Mod.toExt E04 M5 (by intro k hk he; omega)
      have kb := B4.out.two
      have kb5 := B5.out.two
      have ks := S5.out.two
      have hq3 := Pr.len hq
      have j1 : (0 : Int) ≤ (j : Int) := by omega
      have j2 : (j : Int) < (N : Int) := by omega
      have hM7 : Mod (fun k => k = w.heap.size + 1 + 1) (w4.setCells g (j * 43) q.cells) _ := ((Mod.refl _ _).set1 (.slice (some ⟨g, 0, none⟩) N c2) (o := 0)).set1 (.int .i64 nx) (o := 1)
      obtain ⟨q0, q1, _, _⟩ := (S5.out.put2 (.slice (some ⟨g, 0, none⟩) N c2) (.int .i64 nx)).two
      have hr5 := Lib.hid O5.out.row
      clear hx hpj hcl M5 hz22
      go_wp2_with (first
        | (refine wpList_load_row rfl 64 _ rfl _ rfl 64 _ _ _ P4.out Tryz.underlying64 rfl (by rw [List.size_toArray]; exact i43r' hq) ?_)
        | (refine wpList_store_mid rfl 64 _ _ rfl g (j * 43) q.cells.toArray rfl rfl (by rw [List.size_toArray, hq3]; exact hth) (by rw [List.size_toArray]; exact i43r' hq) (Pr.one hq) ?_))
      refine bodyPost_ret (v := tv (some ⟨g, 0, none⟩) N c2 nx) (by simp [results, Tryz.results60, go_sem, q0, q1]) rfl ?_
      refine ⟨Mod.toExt E05 hM7 (by intro k hk he; omega), .inr ⟨HR.out, some ⟨g, 0, none⟩, c2, by rw [HN.out], ?_⟩⟩
      rw [HN.out, HX.out]
      exact (O5.out.mod hM7 (fun k hk he => by have := (hr5.out k hk).1; have := hz2.out; omega) (fun k _ hk _ => hk)).lower (by have := hz2.out; omega)
end Go.Proofs.YteljobleojhgmaaGreat
