/- What comes of a process's end for its terminal, by contract. Conditions: sets have 64 bits. -/
import Derived.Test.YtcncacllaonplaaR22
namespace Go.Proofs.Ytcncacllaonplaa
open Go.RowKit Go.Kb

theorem TabS.mods {S : Nat → Prop} {T : TypeId} {Ad A' : Option Addr} {c c' base : Nat} {l0 l : List Pr} {w w' : World} (h : TabS T Ad c l0 base w A' c' l) (M : Mod S w w') (hS : ∀ j, S j → ∃ t cs, Blk w j t cs ∧ T ≠ t) : TabS T Ad c l0 base w' A' c' l := by
  rcases h with h | h
  · exact .inl h
  · exact .inr (h.mod M (fun j hj hs => by
      obtain ⟨t, cs, hb, hne⟩ := hS j hs
      exact own_blk_ne h.choose_spec.1 hb hne hj) (fun k _ hk _ => hk))
def LeavePost (Ad : Option Addr) (c : Nat) (l : List Pr) (nx s g0 : Int) (ts : Bool) (pid : Int) (w : World) (e : Ending) (w' : World) : Prop :=
  Ext w w' ∧ (((pid = 0 ∨ pid ≠ s) ∧ e = .returned (.tuple #[tv Ad l.length c nx, .agg #[.int .i64 s, .int .i64 g0, .bool ts]])) ∨
    (pid ≠ 0 ∧ pid = s ∧ ∃ A' c', e = .returned (.tuple #[tv A' l.length c' nx, .agg #[.int .i64 0, .int .i64 0, .bool ts]]) ∧ TabS 40 Ad c l w.heap.size w' A' c' (groupL l nx g0 1)))
set_option maxRecDepth 100000 in
set_option maxHeartbeats 3000000 in
theorem leave_any {A : Nat → Prop} (Ad : Option Addr) (c : Nat) (l : List Pr) (nx s g0 : Int) (ts : Bool) (pid : Int) (w : World) (h : RdY Rp A w (.slice Ad l.length c) l) (hb : ∀ p ∈ l, Sig.U64 p.pending) :
    Calls Try.prog 22 #[tv Ad l.length c nx, .agg #[.int .i64 s, .int .i64 g0, .bool ts], .int .i64 pid] w (LeavePost Ad c l nx s g0 ts pid w) := by
  have H := Lib.hid (rdy_pr (B := fun _ => False) h)
  obtain ⟨N, hN⟩ : ∃ N, l.length = N := ⟨_, rfl⟩
  have hfl := fun n b t w h hB hv => sgroups_any (A := fun _ => False) Ad c l nx g0 1 (.inl rfl) n b t w h hb hB hv
  unfold LeavePost
  rw [hN] at H hfl ⊢
  have HFL := Lib.hid hfl
  have HN := Lib.hid hN
  clear h hb hN hfl
  obtain ⟨W, hW⟩ : ∃ W, W = (((w.alloc (.cells #[.slice Ad N c, .int .i64 nx] 28)).alloc (.cells #[.int .i64 s, .int .i64 g0, .bool ts] 33)).alloc (.cells #[.slice none 0 0, .int .i64 0] 28)).alloc (.cells #[.int .i64 0, .int .i64 0, .bool false] 33) := ⟨_, rfl⟩
  have hr2 := Lib.hid (show Blk W (w.heap.size + 3) 33 #[.int .i64 0, .int .i64 0, .bool false] by rw [hW]; exact Blk.at_ _ _ (by simp))
  have hres := Lib.hid (show Blk W (w.heap.size + 2) 28 #[.slice none 0 0, .int .i64 0] by rw [hW]; exact (Blk.at_ _ _ (by simp)).alloc _)
  have hty := Lib.hid (show Blk W (w.heap.size + 1) 33 #[.int .i64 s, .int .i64 g0, .bool ts] by rw [hW]; exact ((Blk.at_ _ _ (by simp)).alloc _).alloc _)
  have hbox := Lib.hid (show Blk W w.heap.size 28 #[.slice Ad N c, .int .i64 nx] by rw [hW]; exact (((Blk.new w _ _).alloc _).alloc _).alloc _)
  have E0 : Ext w W := by rw [hW]; exact (by repeat (first | with_reducible exact Ext.refl _ | refine Ext.drewN ?_ _ | refine Ext.drew ?_ | refine Ext.alloc ?_ _ | assumption | (refine Below.trans ?_ (by assumption)) | (refine Ext.trans ?_ (by assumption)) | (refine Below.trans ?_ (Below.mono (by assumption) (by omega)))))
  have HW := Lib.hid hW
  have hsz := Lib.hid (show W.heap.size = w.heap.size + 4 by rw [hW]; simp)
  have hf0 := hbox.out.frozen 0
  have ky := hty.out.cell 0
  have ky1 := hty.out.cell 1
  have ky2 := hty.out.cell 2
  have kb := hbox.out.two
  have kr := hres.out.two
  have q0 := hr2.out.cell 0
  have q1 := hr2.out.cell 1
  have q2 := hr2.out.cell 2
  have f0 := hr2.out.frozen 0
  have f1 := hr2.out.frozen 1
  have f2 := hr2.out.frozen 2
  clear hW hf0
  by_cases h0 : pid = 0
  · have h0b : (pid == 0) = true := by simpa using h0
    go_enter Try.func22, Try.ntmps22
    go_upto_region 1 with fail
    rw [← HW.out]
    go_wp2
    refine wp_region_held_drew (S := fun w' => Mod (fun k => k = w.heap.size + 1 + 1 ∨ k = w.heap.size + 1 + 1 + 1) W w') (by kernel_rfl) ((Mod.refl _ _).drew) (fun hHeld => ?_)
    (refine wpAnyH_take (i := 0) (v := ?_) rfl (by kernel_rfl) (by kernel_rfl) (by kernel_rfl) (fun _ _ _ h => h) (Or.inl ⟨by rfl, ?_⟩) (by assumption) ?_; rotate_left; (focus (intro w' hSw; have kc := (hbox.out.mod hSw (by omega)).two; go_simp; try with_reducible rfl)); (try simp only [List.getElem_toArray]); (try simp only [List.getElem_cons_succ]); (try simp only [List.getElem_cons_zero]); (try simp only [Act.put]); (try simp only [List.setIfInBounds_toArray]); (try simp only [List.set_cons_succ]); (try simp only [List.set_cons_zero]))
    (refine wpAnyH_take (i := 1) (v := ?_) rfl (by kernel_rfl) (by kernel_rfl) (by kernel_rfl) (fun _ _ _ h => h) (Or.inl ⟨by rfl, ?_⟩) (by assumption) ?_; rotate_left; (focus (intro w' hSw; have y0 := (hty.out.mod hSw (by omega)).cell 0; have y1 := (hty.out.mod hSw (by omega)).cell 1; have y2 := (hty.out.mod hSw (by omega)).cell 2; go_simp; try with_reducible rfl)); (try simp only [List.getElem_toArray]); (try simp only [List.getElem_cons_succ]); (try simp only [List.getElem_cons_zero]); (try simp only [Act.put]); (try simp only [List.setIfInBounds_toArray]); (try simp only [List.set_cons_succ]); (try simp only [List.set_cons_zero]))
    obtain ⟨D, hD⟩ : ∃ D, D = W.drew := ⟨_, rfl⟩
    have ED : Ext W D := by rw [hD]; exact (Ext.refl _).drew
    have hHeld : Mod (fun k => k = w.heap.size + 1 + 1 ∨ k = w.heap.size + 1 + 1 + 1) W D := by rw [hD]; exact (Mod.refl _ _).drew
    rw [← hD]
    clear hD
    have hS0 := hres.out.ext ED
    have ks := hS0.two
    have M5 : Mod (fun k => k = w.heap.size + 1 + 1) D _ := ((Mod.refl _ D).set1 (.slice Ad N c) (o := 0)).set1 (.int .i64 nx) (o := 1)
    have N5 := hHeld.trans (M5.mono (T := fun k => k = w.heap.size + 1 + 1 ∨ k = w.heap.size + 1 + 1 + 1) fun _ _ h => .inl h)
    (refine wpAnyH_ready (rs := [2]) (by kernel_rfl) (by simp) ?_; refine AllReadyH.cons rfl (fun K hK => ?_) AllReadyH.nil; go_simp; refine hK.out _ _ N5 (fun hHeld => ?_); clear hK K; (try simp only [Act.put]); (try simp only [List.getElem_toArray]); (try simp only [List.getElem_cons_succ]); (try simp only [List.getElem_cons_zero]); (try simp only [List.setIfInBounds_toArray]); (try simp only [List.set_cons_succ]); (try simp only [List.set_cons_zero]))
    have hS1 := hS0.put2 (.slice Ad N c) (.int .i64 nx)
    have hY1 := (hr2.out.ext ED).mod M5 (by omega)
    have r0 := hY1.cell 0
    have r1 := hY1.cell 1
    have r2 := hY1.cell 2
    have f0 := hY1.frozen 0
    have f1 := hY1.frozen 1
    have f2 := hY1.frozen 2
    generalize World.setCell (World.setCell D _ _) _ _ = D1 at *
    have M6 : Mod (fun k => k = w.heap.size + 1 + 1 + 1) D1 _ := (((Mod.refl _ D1).set1 (.int .i64 s) (o := 0)).set1 (.int .i64 g0) (o := 1)).set1 (.bool ts) (o := 2)
    have M7 := N5.trans (M6.mono (T := fun k => k = w.heap.size + 1 + 1 ∨ k = w.heap.size + 1 + 1 + 1) fun _ _ h => .inr h)
    (refine wpAnyH_ready (rs := [3]) (by kernel_rfl) (by simp) ?_; refine AllReadyH.cons rfl (fun K hK => ?_) AllReadyH.nil; go_simp; refine hK.out _ _ M7 (fun hHeld => ?_); clear hK K; (try simp only [Act.put]); (try simp only [List.getElem_toArray]); (try simp only [List.getElem_cons_succ]); (try simp only [List.getElem_cons_zero]); (try simp only [List.setIfInBounds_toArray]); (try simp only [List.set_cons_succ]); (try simp only [List.set_cons_zero]))
    refine wpAnyH_done (by kernel_rfl) ?_ _
    have hS2 := Lib.hid (hS1.mod M6 (by omega))
    have hY2 := Lib.hid (show Blk _ _ _ #[.int .i64 s, .int .i64 g0, .bool ts] from ((hY1.set_ 0 (.int .i64 s)).set_ 1 (.int .i64 g0)).set_ 2 (.bool ts))
    have M7 := Lib.hid M7
    clear hY1 hS1 hS0 M6 M5 N5 r0 r1 r2 f0 f1 f2 ks
    generalize World.setCell (World.setCell (World.setCell D1 _ _) _ _) _ _ = Z at *
    obtain ⟨q0, q1, _, _⟩ := hS2.out.two
    have v0 := hY2.out.cell 0
    have v1 := hY2.out.cell 1
    have v2 := hY2.out.cell 2
    go_wp2
    refine bodyPost_ret (v := .tuple #[tv Ad N c nx, .agg #[.int .i64 s, .int .i64 g0, .bool ts]]) (by simp [results, Try.results22, go_sem, q0, q1, v0, v1, v2]) rfl ?_
    exact ⟨Mod.toExt E0 M7.out (by intro k hk he; omega), .inl ⟨.inl h0, rfl⟩⟩
  · have h0b : (pid == 0) = false := by simpa using h0
    by_cases h1 : pid = s
    · have h1b : (pid != s) = false := by simpa using h1
      have HS := Lib.hid h1
      clear h1
      go_enter Try.func22, Try.ntmps22
      go_upto_region 1 with fail
      rw [← HW.out]
      go_upto_region 4 with fail
      obtain ⟨V, hV⟩ : ∃ V, V = W.alloc (.cells #[.slice Ad N c, .int .i64 nx] 93) := ⟨_, rfl⟩
      obtain ⟨n, hn⟩ : ∃ n, n = W.heap.size := ⟨_, rfl⟩
      rw [← hn, ← hV]
      have hsnd := Lib.hid (show Blk V n 93 #[.slice Ad N c, .int .i64 nx] by rw [hV]; exact Blk.at_ _ _ hn.symm)
      have EV : Ext W V := by rw [hV]; exact (by repeat (first | with_reducible exact Ext.refl _ | refine Ext.drewN ?_ _ | refine Ext.drew ?_ | refine Ext.alloc ?_ _ | assumption | (refine Below.trans ?_ (by assumption)) | (refine Ext.trans ?_ (by assumption)) | (refine Below.trans ?_ (Below.mono (by assumption) (by omega)))))
      have hty := Lib.hid (hty.out.ext EV)
      have hres := Lib.hid (hres.out.ext EV)
      have hr2 := Lib.hid (hr2.out.ext EV)
      have hgn : n = w.heap.size + 4 := by rw [hn]; exact hsz.out
      have HGN := Lib.hid hgn
      have E0V := E0.trans EV
      have ky := hty.out.cell 0
      have ky1 := hty.out.cell 1
      obtain ⟨n2, hn2⟩ : ∃ n, V.heap.size = n := ⟨_, rfl⟩
      clear hV hn kb kr q0 q1 q2 f0 f1 f2 hbox hgn ky2
      go_wp2_with fail
      have EX : Ext V (V.alloc (.cells #[.int .i64 1] 3)) := (Ext.refl V).alloc _
      refine (HFL.out n n2 _ _ (H.out.ext (E0V.trans EX)) (hsnd.out.ext EX) (Blk.at_ _ _ hn2)).mono ?_
      rintro e w1 ⟨rfl, ⟨A2, c2, B2, T2⟩, M2⟩
      rw [HN.out] at B2
      have hgn := HGN.out
      have hsnd := Lib.hid B2
      have hlt := hr2.out.lt
      have hty := Lib.hid ((hty.out.ext EX).mod M2 (by omega))
      have hres := Lib.hid ((hres.out.ext EX).mod M2 (by omega))
      have hr2 := Lib.hid ((hr2.out.ext EX).mod M2 (by omega))
      have E01 : Ext w w1 := Mod.toExt (E0V.trans EX) M2 (by intro k hk he; omega)
      have T2 := Lib.hid (T2.lower (E0V.trans EX).size)
      clear ky ky1 hn2 M2 B2 EX hlt hgn
      go_wp2
      refine wp_region_held_drew (S := fun w' => Mod (fun k => k = w.heap.size + 1 + 1 ∨ k = w.heap.size + 1 + 1 + 1) w1 w') (by kernel_rfl) ((Mod.refl _ _).drew) (fun hHeld => ?_)
      (refine wpAnyH_take (i := 0) (v := ?_) rfl (by kernel_rfl) (by kernel_rfl) (by kernel_rfl) (fun _ _ _ h => h) (Or.inl ⟨by rfl, ?_⟩) (by assumption) ?_; rotate_left; (focus (intro w' hSw; go_simp; try with_reducible rfl)); (try simp only [List.getElem_toArray]); (try simp only [List.getElem_cons_succ]); (try simp only [List.getElem_cons_zero]); (try simp only [Act.put]); (try simp only [List.setIfInBounds_toArray]); (try simp only [List.set_cons_succ]); (try simp only [List.set_cons_zero]))
      (refine wpAnyH_take (i := 1) (v := ?_) rfl (by kernel_rfl) (by kernel_rfl) (by kernel_rfl) (fun _ _ _ h => h) (Or.inl ⟨by rfl, ?_⟩) (by assumption) ?_; rotate_left; (focus (intro w' hSw; go_simp; try with_reducible rfl)); (try simp only [List.getElem_toArray]); (try simp only [List.getElem_cons_succ]); (try simp only [List.getElem_cons_zero]); (try simp only [Act.put]); (try simp only [List.setIfInBounds_toArray]); (try simp only [List.set_cons_succ]); (try simp only [List.set_cons_zero]))
      (refine wpAnyH_take (i := 2) (v := ?_) rfl (by kernel_rfl) (by kernel_rfl) (by kernel_rfl) (fun _ _ _ h => h) (Or.inl ⟨by rfl, ?_⟩) (by assumption) ?_; rotate_left; (focus (intro w' hSw; go_simp; try with_reducible rfl)); (try simp only [List.getElem_toArray]); (try simp only [List.getElem_cons_succ]); (try simp only [List.getElem_cons_zero]); (try simp only [Act.put]); (try simp only [List.setIfInBounds_toArray]); (try simp only [List.set_cons_succ]); (try simp only [List.set_cons_zero]))
      (refine wpAnyH_take (i := 3) (v := ?_) rfl (by kernel_rfl) (by kernel_rfl) (by kernel_rfl) (fun _ _ _ h => h) (Or.inl ⟨by rfl, ?_⟩) (by assumption) ?_; rotate_left; (focus (intro w' hSw; have kc := (hsnd.out.mod hSw (by have := HGN.out; omega)).two; go_simp; try with_reducible rfl)); (try simp only [List.getElem_toArray]); (try simp only [List.getElem_cons_succ]); (try simp only [List.getElem_cons_zero]); (try simp only [Act.put]); (try simp only [List.setIfInBounds_toArray]); (try simp only [List.set_cons_succ]); (try simp only [List.set_cons_zero]))
      (refine wpAnyH_take (i := 4) (v := ?_) rfl (by kernel_rfl) (by kernel_rfl) (by kernel_rfl) (fun _ _ _ h => h) (Or.inl ⟨by rfl, ?_⟩) (by assumption) ?_; rotate_left; (focus (intro w' hSw; go_simp; try with_reducible rfl)); (try simp only [List.getElem_toArray]); (try simp only [List.getElem_cons_succ]); (try simp only [List.getElem_cons_zero]); (try simp only [Act.put]); (try simp only [List.setIfInBounds_toArray]); (try simp only [List.set_cons_succ]); (try simp only [List.set_cons_zero]))
      (refine wpAnyH_take (i := 5) (v := ?_) rfl (by kernel_rfl) (by kernel_rfl) (by kernel_rfl) (fun _ _ _ h => h) (Or.inl ⟨by rfl, ?_⟩) (by assumption) ?_; rotate_left; (focus (intro w' hSw; have y2 := (hty.out.mod hSw (by omega)).cell 2; go_simp; try with_reducible rfl)); (try simp only [List.getElem_toArray]); (try simp only [List.getElem_cons_succ]); (try simp only [List.getElem_cons_zero]); (try simp only [Act.put]); (try simp only [List.setIfInBounds_toArray]); (try simp only [List.set_cons_succ]); (try simp only [List.set_cons_zero]))
      (refine wpAnyH_take (i := 6) (v := ?_) rfl (by kernel_rfl) (by kernel_rfl) (by kernel_rfl) (fun _ _ _ h => h) (Or.inl ⟨by rfl, ?_⟩) (by assumption) ?_; rotate_left; (focus (intro w' hSw; go_simp; try with_reducible rfl)); (try simp only [List.getElem_toArray]); (try simp only [List.getElem_cons_succ]); (try simp only [List.getElem_cons_zero]); (try simp only [Act.put]); (try simp only [List.setIfInBounds_toArray]); (try simp only [List.set_cons_succ]); (try simp only [List.set_cons_zero]))
      obtain ⟨D, hD⟩ : ∃ D, D = w1.drew := ⟨_, rfl⟩
      have ED : Ext w1 D := by rw [hD]; exact (Ext.refl _).drew
      have hHeld : Mod (fun k => k = w.heap.size + 1 + 1 ∨ k = w.heap.size + 1 + 1 + 1) w1 D := by rw [hD]; exact (Mod.refl _ _).drew
      rw [← hD]
      clear hD
      have hS0 := hres.out.ext ED
      have ks := hS0.two
      have M5 : Mod (fun k => k = w.heap.size + 1 + 1) D _ := ((Mod.refl _ D).set1 (.slice A2 N c2) (o := 0)).set1 (.int .i64 nx) (o := 1)
      have N5 := hHeld.trans (M5.mono (T := fun k => k = w.heap.size + 1 + 1 ∨ k = w.heap.size + 1 + 1 + 1) fun _ _ h => .inl h)
      (refine wpAnyH_ready (rs := [7]) (by kernel_rfl) (by simp) ?_; refine AllReadyH.cons rfl (fun K hK => ?_) AllReadyH.nil; go_simp; refine hK.out _ _ N5 (fun hHeld => ?_); clear hK K; (try simp only [Act.put]); (try simp only [List.getElem_toArray]); (try simp only [List.getElem_cons_succ]); (try simp only [List.getElem_cons_zero]); (try simp only [List.setIfInBounds_toArray]); (try simp only [List.set_cons_succ]); (try simp only [List.set_cons_zero]))
      have hS1 := hS0.put2 (.slice A2 N c2) (.int .i64 nx)
      have hY1 := (hr2.out.ext ED).mod M5 (by omega)
      have r0 := hY1.cell 0
      have r1 := hY1.cell 1
      have r2 := hY1.cell 2
      have f0 := hY1.frozen 0
      have f1 := hY1.frozen 1
      have f2 := hY1.frozen 2
      generalize World.setCell (World.setCell D _ _) _ _ = D1 at *
      have M6 : Mod (fun k => k = w.heap.size + 1 + 1 + 1) D1 _ := (((Mod.refl _ D1).set1 (.int .i64 0) (o := 0)).set1 (.int .i64 0) (o := 1)).set1 (.bool ts) (o := 2)
      have M7 := N5.trans (M6.mono (T := fun k => k = w.heap.size + 1 + 1 ∨ k = w.heap.size + 1 + 1 + 1) fun _ _ h => .inr h)
      (refine wpAnyH_ready (rs := [8]) (by kernel_rfl) (by simp) ?_; refine AllReadyH.cons rfl (fun K hK => ?_) AllReadyH.nil; go_simp; refine hK.out _ _ M7 (fun hHeld => ?_); clear hK K; (try simp only [Act.put]); (try simp only [List.getElem_toArray]); (try simp only [List.getElem_cons_succ]); (try simp only [List.getElem_cons_zero]); (try simp only [List.setIfInBounds_toArray]); (try simp only [List.set_cons_succ]); (try simp only [List.set_cons_zero]))
      refine wpAnyH_done (by kernel_rfl) ?_ _
      have hS2 := Lib.hid (hS1.mod M6 (by omega))
      have hY2 := Lib.hid (show Blk _ _ _ #[.int .i64 0, .int .i64 0, .bool ts] from ((hY1.set_ 0 (.int .i64 0)).set_ 1 (.int .i64 0)).set_ 2 (.bool ts))
      have M7 := Lib.hid M7
      clear hY1 hS1 hS0 M6 M5 N5 r0 r1 r2 f0 f1 f2 ks
      generalize World.setCell (World.setCell (World.setCell D1 _ _) _ _) _ _ = Z at *
      obtain ⟨q0, q1, _, _⟩ := hS2.out.two
      have v0 := hY2.out.cell 0
      have v1 := hY2.out.cell 1
      have v2 := hY2.out.cell 2
      go_wp2
      refine bodyPost_ret (v := .tuple #[tv A2 N c2 nx, .agg #[.int .i64 0, .int .i64 0, .bool ts]]) (by simp [results, Try.results22, go_sem, q0, q1, v0, v1, v2]) rfl ?_
      have hz1 := hres.out.lt
      exact ⟨Mod.toExt E01 M7.out (by intro k hk he; omega), .inr ⟨h0, HS.out, A2, c2, rfl, T2.out.mods M7.out (fun j hj => hj.elim (fun he => ⟨_, _, he ▸ hres.out, by decide⟩) (fun he => ⟨_, _, he ▸ hr2.out, by decide⟩))⟩⟩
    · have h1b : (pid != s) = true := by simpa using h1
      go_enter Try.func22, Try.ntmps22
      go_upto_region 1 with fail
      rw [← HW.out]
      go_wp2
      refine wp_region_held_drew (S := fun w' => Mod (fun k => k = w.heap.size + 1 + 1 ∨ k = w.heap.size + 1 + 1 + 1) W w') (by kernel_rfl) ((Mod.refl _ _).drew) (fun hHeld => ?_)
      (refine wpAnyH_take (i := 0) (v := ?_) rfl (by kernel_rfl) (by kernel_rfl) (by kernel_rfl) (fun _ _ _ h => h) (Or.inl ⟨by rfl, ?_⟩) (by assumption) ?_; rotate_left; (focus (intro w' hSw; have kc := (hbox.out.mod hSw (by omega)).two; go_simp; try with_reducible rfl)); (try simp only [List.getElem_toArray]); (try simp only [List.getElem_cons_succ]); (try simp only [List.getElem_cons_zero]); (try simp only [Act.put]); (try simp only [List.setIfInBounds_toArray]); (try simp only [List.set_cons_succ]); (try simp only [List.set_cons_zero]))
      (refine wpAnyH_take (i := 1) (v := ?_) rfl (by kernel_rfl) (by kernel_rfl) (by kernel_rfl) (fun _ _ _ h => h) (Or.inl ⟨by rfl, ?_⟩) (by assumption) ?_; rotate_left; (focus (intro w' hSw; have y0 := (hty.out.mod hSw (by omega)).cell 0; have y1 := (hty.out.mod hSw (by omega)).cell 1; have y2 := (hty.out.mod hSw (by omega)).cell 2; go_simp; try with_reducible rfl)); (try simp only [List.getElem_toArray]); (try simp only [List.getElem_cons_succ]); (try simp only [List.getElem_cons_zero]); (try simp only [Act.put]); (try simp only [List.setIfInBounds_toArray]); (try simp only [List.set_cons_succ]); (try simp only [List.set_cons_zero]))
      obtain ⟨D, hD⟩ : ∃ D, D = W.drew := ⟨_, rfl⟩
      have ED : Ext W D := by rw [hD]; exact (Ext.refl _).drew
      have hHeld : Mod (fun k => k = w.heap.size + 1 + 1 ∨ k = w.heap.size + 1 + 1 + 1) W D := by rw [hD]; exact (Mod.refl _ _).drew
      rw [← hD]
      clear hD
      have hS0 := hres.out.ext ED
      have ks := hS0.two
      have M5 : Mod (fun k => k = w.heap.size + 1 + 1) D _ := ((Mod.refl _ D).set1 (.slice Ad N c) (o := 0)).set1 (.int .i64 nx) (o := 1)
      have N5 := hHeld.trans (M5.mono (T := fun k => k = w.heap.size + 1 + 1 ∨ k = w.heap.size + 1 + 1 + 1) fun _ _ h => .inl h)
      (refine wpAnyH_ready (rs := [2]) (by kernel_rfl) (by simp) ?_; refine AllReadyH.cons rfl (fun K hK => ?_) AllReadyH.nil; go_simp; refine hK.out _ _ N5 (fun hHeld => ?_); clear hK K; (try simp only [Act.put]); (try simp only [List.getElem_toArray]); (try simp only [List.getElem_cons_succ]); (try simp only [List.getElem_cons_zero]); (try simp only [List.setIfInBounds_toArray]); (try simp only [List.set_cons_succ]); (try simp only [List.set_cons_zero]))
      have hS1 := hS0.put2 (.slice Ad N c) (.int .i64 nx)
      have hY1 := (hr2.out.ext ED).mod M5 (by omega)
      have r0 := hY1.cell 0
      have r1 := hY1.cell 1
      have r2 := hY1.cell 2
      have f0 := hY1.frozen 0
      have f1 := hY1.frozen 1
      have f2 := hY1.frozen 2
      generalize World.setCell (World.setCell D _ _) _ _ = D1 at *
      have M6 : Mod (fun k => k = w.heap.size + 1 + 1 + 1) D1 _ := (((Mod.refl _ D1).set1 (.int .i64 s) (o := 0)).set1 (.int .i64 g0) (o := 1)).set1 (.bool ts) (o := 2)
      have M7 := N5.trans (M6.mono (T := fun k => k = w.heap.size + 1 + 1 ∨ k = w.heap.size + 1 + 1 + 1) fun _ _ h => .inr h)
      (refine wpAnyH_ready (rs := [3]) (by kernel_rfl) (by simp) ?_; refine AllReadyH.cons rfl (fun K hK => ?_) AllReadyH.nil; go_simp; refine hK.out _ _ M7 (fun hHeld => ?_); clear hK K; (try simp only [Act.put]); (try simp only [List.getElem_toArray]); (try simp only [List.getElem_cons_succ]); (try simp only [List.getElem_cons_zero]); (try simp only [List.setIfInBounds_toArray]); (try simp only [List.set_cons_succ]); (try simp only [List.set_cons_zero]))
      refine wpAnyH_done (by kernel_rfl) ?_ _
      have hS2 := Lib.hid (hS1.mod M6 (by omega))
      have hY2 := Lib.hid (show Blk _ _ _ #[.int .i64 s, .int .i64 g0, .bool ts] from ((hY1.set_ 0 (.int .i64 s)).set_ 1 (.int .i64 g0)).set_ 2 (.bool ts))
      have M7 := Lib.hid M7
      clear hY1 hS1 hS0 M6 M5 N5 r0 r1 r2 f0 f1 f2 ks
      generalize World.setCell (World.setCell (World.setCell D1 _ _) _ _) _ _ = Z at *
      obtain ⟨q0, q1, _, _⟩ := hS2.out.two
      have v0 := hY2.out.cell 0
      have v1 := hY2.out.cell 1
      have v2 := hY2.out.cell 2
      go_wp2
      refine bodyPost_ret (v := .tuple #[tv Ad N c nx, .agg #[.int .i64 s, .int .i64 g0, .bool ts]]) (by simp [results, Try.results22, go_sem, q0, q1, v0, v1, v2]) rfl ?_
      exact ⟨Mod.toExt E0 M7.out (by intro k hk he; omega), .inl ⟨.inr h1, rfl⟩⟩
end Go.Proofs.Ytcncacllaonplaa
