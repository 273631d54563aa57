/- request: what gets a pty's fields, by contract (its leaves are printed by a program of ours). Conditions: the text is at most a million bytes. -/
import Derived.Test.YtldijmappinngaaGreatDoorPF04
namespace Go.Proofs.YtldijmappinngaaGreatDoor
open Go.RowKit Go.Kb
set_option maxRecDepth 100000

set_option maxHeartbeats 6000000 in
theorem qgetPty (g : Nat) (r : Rq) (v : Value) (A : Nat → Prop) (w : World) (h : Blk w g 92 (rqA r v)) (hv : RdS Ub8 A w v r.mo) (hA : ∀ k, A k → k < w.heap.size) (hs : r.tx.size ≤ 1000000) :
    Calls Tryz.prog 44 #[.pointer (some ⟨g, 0, none⟩)] w (GetLP A [⟨0, 0, bsL r.tx⟩, ⟨0, r.c1, []⟩, ⟨0, r.c2, []⟩, ⟨0, r.c3, []⟩, ⟨0, r.c4, []⟩, ⟨0, 0, r.mo⟩] w) := by
  obtain ⟨Am, cm, rfl, -, -⟩ := hv.shape
  have HB := Lib.hid h
  obtain ⟨L, hL⟩ : ∃ L, r.mo.length = L := ⟨_, rfl⟩
  have k8 := (rqC h).k8
  rw [hL] at hv k8 HB
  have HM := Lib.hid hv
  have HT := Lib.hid (fun w' (E : Ext w w') => qgetText g r _ A w' (HB.out.ext E) hs)
  have HS := Lib.hid (fun w' (E : Ext w w') => qgetSize g r _ w' (HB.out.ext E))
  clear h hv hs hL
  go_enter Tryz.func44, Tryz.ntmps44
  go_upto_region 1 with fail
  refine wp_region_held_drew (S := fun w' => Ext w w') (by kernel_rfl) (Ext.drew (Ext.refl _)) (fun hHeld => ?_)
  obtain ⟨D, hD⟩ : ∃ D, D = w.drew := ⟨_, rfl⟩
  have EE : Ext w D := by rw [hD]; exact (Ext.refl _).drew
  rw [← hD] at hHeld ⊢
  clear hD
  (refine wpAnyH_take (i := 0) (v := ?_) rfl (by kernel_rfl) (by kernel_rfl) (by kernel_rfl) (fun _ _ _ h => h) (Or.inl ⟨by rfl, ?_⟩) (by assumption) ?_; rotate_left; (focus (intro w' hSw; go_simp; try with_reducible rfl)); (try simp only [List.getElem_toArray]); (try simp only [List.getElem_cons_succ]); (try simp only [List.getElem_cons_zero]); (try simp only [Act.put]); (try simp only [List.setIfInBounds_toArray]); (try simp only [List.set_cons_succ]); (try simp only [List.set_cons_zero]))
  (refine wpAnyH_take (i := 2) (v := ?_) rfl (by kernel_rfl) (by kernel_rfl) (by kernel_rfl) (fun _ _ _ h => h) (Or.inl ⟨by rfl, ?_⟩) (by assumption) ?_; rotate_left; (focus (intro w' hSw; go_simp; try with_reducible rfl)); (try simp only [List.getElem_toArray]); (try simp only [List.getElem_cons_succ]); (try simp only [List.getElem_cons_zero]); (try simp only [Act.put]); (try simp only [List.setIfInBounds_toArray]); (try simp only [List.set_cons_succ]); (try simp only [List.set_cons_zero]))
  (refine wpAnyH_take (i := 5) (v := ?_) rfl (by kernel_rfl) (by kernel_rfl) (by kernel_rfl) (fun _ _ _ h => h) (Or.inl ⟨by rfl, ?_⟩) (by assumption) ?_; rotate_left; (focus (intro w' hSw; go_simp; try with_reducible rfl)); (try simp only [List.getElem_toArray]); (try simp only [List.getElem_cons_succ]); (try simp only [List.getElem_cons_zero]); (try simp only [Act.put]); (try simp only [List.setIfInBounds_toArray]); (try simp only [List.set_cons_succ]); (try simp only [List.set_cons_zero]))
  (refine wpAnyH_take (i := 6) (v := ?_) rfl (by kernel_rfl) (by kernel_rfl) (by kernel_rfl) (fun _ _ _ h => h) (Or.inl ⟨by rfl, ?_⟩) (by assumption) ?_; rotate_left; (focus (intro w' hSw; go_simp; try with_reducible rfl)); (try simp only [List.getElem_toArray]); (try simp only [List.getElem_cons_succ]); (try simp only [List.getElem_cons_zero]); (try simp only [Act.put]); (try simp only [List.setIfInBounds_toArray]); (try simp only [List.set_cons_succ]); (try simp only [List.set_cons_zero]))
  (refine wpAnyH_take (i := 7) (v := ?_) rfl (by kernel_rfl) (by kernel_rfl) (by kernel_rfl) (fun _ _ _ h => h) (Or.inl ⟨by rfl, ?_⟩) (by assumption) ?_; rotate_left; (focus (intro w' hSw; go_simp; try with_reducible rfl)); (try simp only [List.getElem_toArray]); (try simp only [List.getElem_cons_succ]); (try simp only [List.getElem_cons_zero]); (try simp only [Act.put]); (try simp only [List.setIfInBounds_toArray]); (try simp only [List.set_cons_succ]); (try simp only [List.set_cons_zero]))
  (refine wpAnyH_take (i := 8) (v := ?_) rfl (by kernel_rfl) (by kernel_rfl) (by kernel_rfl) (fun _ _ _ h => h) (Or.inl ⟨by rfl, ?_⟩) (by assumption) ?_; rotate_left; (focus (intro w' hSw; go_simp; try with_reducible rfl)); (try simp only [List.getElem_toArray]); (try simp only [List.getElem_cons_succ]); (try simp only [List.getElem_cons_zero]); (try simp only [Act.put]); (try simp only [List.setIfInBounds_toArray]); (try simp only [List.set_cons_succ]); (try simp only [List.set_cons_zero]))
  (refine wpAnyH_take (i := 9) (v := ?_) rfl (by kernel_rfl) (by kernel_rfl) (by kernel_rfl) (fun _ _ _ h => h) (Or.inl ⟨by rfl, ?_⟩) (by assumption) ?_; rotate_left; (focus (intro w' hSw; have kc := cell_ext hSw k8; go_simp; try with_reducible rfl)); (try simp only [List.getElem_toArray]); (try simp only [List.getElem_cons_succ]); (try simp only [List.getElem_cons_zero]); (try simp only [Act.put]); (try simp only [List.setIfInBounds_toArray]); (try simp only [List.set_cons_succ]); (try simp only [List.set_cons_zero]))
  (refine wpAnyH_take (i := 10) (v := .agg #[.int .i64 0, .int .u32 0, .slice Am L cm, .slice none 0 0]) rfl (by kernel_rfl) (by kernel_rfl) (by kernel_rfl) (fun _ _ _ h => h) (yieldsIf_build (by rfl) 59 _ rfl (by simp [go_sem]; exact (by kernel_rfl))) (by assumption) ?_; (try simp only [List.getElem_toArray]); (try simp only [List.getElem_cons_succ]); (try simp only [List.getElem_cons_zero]); (try simp only [Act.put]); (try simp only [List.setIfInBounds_toArray]); (try simp only [List.set_cons_succ]); (try simp only [List.set_cons_zero]))
  refine wpAnyH_ready (rs := [1, 11]) (by kernel_rfl) (by simp) ?_
  refine AllReadyH.cons rfl (fun K hK => ?_) (AllReadyH.cons rfl (fun K hK => ?_) AllReadyH.nil)
  · skip
    go_simp
    refine (HT.out D EE).mono ?_
    rintro e u1 ⟨v1, rfl, o1, E1⟩
    (try dsimp only)
    refine hK.out _ _ (EE.trans E1) (fun hHeld => ?_)
    clear hK K
    (try simp only [Act.put]); (try simp only [List.getElem_toArray]); (try simp only [List.getElem_cons_succ]); (try simp only [List.getElem_cons_zero]); (try simp only [List.setIfInBounds_toArray]); (try simp only [List.set_cons_succ]); (try simp only [List.set_cons_zero])
    obtain ⟨A1, c1, rfl, -, -⟩ := o1.shape
    have O1 := Lib.hid ((o1.lower EE.size).mono (B := fun k => A k ∨ w.heap.size ≤ k) (fun k _ hk => by have := EE.size; rcases hk with hk | hk; exact .inl hk; exact .inr (by omega)))
    have EE := EE.trans E1
    clear o1
    refine wpAnyH_ready (rs := [3, 11]) (by kernel_rfl) (by simp) ?_
    refine AllReadyH.cons rfl (fun K hK => ?_) (AllReadyH.cons rfl (fun K hK => ?_) AllReadyH.nil)
    · skip
      go_simp
      refine (HS.out u1 EE).mono ?_
      rintro e u2 ⟨v3, rfl, o3, E2⟩
      (try dsimp only)
      refine hK.out _ _ (EE.trans E2) (fun hHeld => ?_)
      clear hK K
      (try simp only [Act.put]); (try simp only [List.getElem_toArray]); (try simp only [List.getElem_cons_succ]); (try simp only [List.getElem_cons_zero]); (try simp only [List.setIfInBounds_toArray]); (try simp only [List.set_cons_succ]); (try simp only [List.set_cons_zero])
      obtain ⟨A3, c3, rfl, -, -⟩ := o3.shape
      have O3 := Lib.hid o3
      have O1 := Lib.hid (O1.out.ext E2)
      have EE := EE.trans E2
      clear o3
      refine wpAnyH_ready (rs := [4, 11]) (by kernel_rfl) (by simp) ?_
      refine AllReadyH.cons rfl (fun K hK => ?_) (AllReadyH.cons rfl (fun K hK => ?_) AllReadyH.nil)
      · skip
        refine step_app (e := FdR) (base := w.heap.size) (B := fun k => A k ∨ w.heap.size ≤ k) (A := fun _ => False) rfl (.tmp 4) (.tmp 6) rfl Tryz.underlying60 info_fd rfl O1.out rfl (O3.out.y.mono (fun k _ hk => hk.1)) rfl (fun k _ hk => hk.elim) (N := 5) rfl (by unfold maxLen; omega) (by omega) EE.size ?_
        intro A7 c7 u3 o7 M7 L7
        have hrow := O1.out.row
        have E7 : Ext w u3 := Mod.toExt EE M7 (fun k hk he => by have := (hrow k he).1; omega)
        refine hK.out _ _ E7 (fun hHeld => ?_)
        clear hK K
        (try simp only [Act.put]); (try simp only [List.getElem_toArray]); (try simp only [List.getElem_cons_succ]); (try simp only [List.getElem_cons_zero]); (try simp only [List.setIfInBounds_toArray]); (try simp only [List.set_cons_succ]); (try simp only [List.set_cons_zero])
        have O7 := Lib.hid o7
        have EE := E7
        clear o7 O1 O3 M7 L7 E7 hrow
        refine wpAnyH_ready (rs := [11]) (by kernel_rfl) (by simp) ?_
        refine AllReadyH.cons rfl (fun K hK => ?_) AllReadyH.nil
        go_simp
        have HX := Lib.hid (Blk.new u3 59 #[.int .i64 0, .int .u32 0, .slice Am L cm, .slice none 0 0])
        have EX : Ext u3 (u3.alloc (.cells #[.int .i64 0, .int .u32 0, .slice Am L cm, .slice none 0 0] 59)) := (Ext.refl _).alloc _
        refine hK.out _ _ (EE.trans EX) (fun hHeld => ?_)
        clear hK K
        (try simp only [Act.put]); (try simp only [List.getElem_toArray]); (try simp only [List.getElem_cons_succ]); (try simp only [List.getElem_cons_zero]); (try simp only [List.setIfInBounds_toArray]); (try simp only [List.set_cons_succ]); (try simp only [List.set_cons_zero])
        have O7 := Lib.hid (O7.out.ext EX)
        have EE := EE.trans EX
        generalize u3.alloc (.cells #[.int .i64 0, .int .u32 0, .slice Am L cm, .slice none 0 0] 59) = u4 at *
        generalize u3.heap.size = nX at *
        refine wpAnyH_ready (rs := [12]) (by kernel_rfl) (by simp) ?_
        refine AllReadyH.cons rfl (fun K hK => ?_) AllReadyH.nil
        have HMD := Lib.hid (HM.out.ext EE)
        refine step_app (e := FdR) (base := w.heap.size) (B := fun k => A k ∨ w.heap.size ≤ k) (A := A) rfl (.tmp 7) (.tmp 14) rfl Tryz.underlying60 info_fd rfl O7.out rfl (RdY.singleB (e := FdR) (cs := [.int .i64 0, .int .u32 0, .slice Am L cm, .slice none 0 0]) (d := ⟨0, 0, r.mo⟩) ⟨_, rfl, HMD.out⟩ HX.out) rfl (fun k _ hk => ⟨.inl hk, fun he => by have := (O7.out.row k he).1; have := hA k hk; omega⟩) (N := 6) rfl (by unfold maxLen; omega) (by omega) EE.size ?_
        intro A9 c9 u5 o9 M9 L9
        have hrow := O7.out.row
        have E9 : Ext w u5 := Mod.toExt EE M9 (fun k hk he => by have := (hrow k he).1; omega)
        refine hK.out _ _ E9 (fun hHeld => ?_)
        clear hK K
        (try simp only [Act.put]); (try simp only [List.getElem_toArray]); (try simp only [List.getElem_cons_succ]); (try simp only [List.getElem_cons_zero]); (try simp only [List.setIfInBounds_toArray]); (try simp only [List.set_cons_succ]); (try simp only [List.set_cons_zero])
        have O9 := Lib.hid o9
        clear o9 O7 M9 L9 E9 hrow HX HMD EE
        (refine wpAnyH_take (i := 13) (v := ?_) rfl (by kernel_rfl) (by kernel_rfl) (by kernel_rfl) (fun _ _ _ h => h) (Or.inl ⟨by rfl, ?_⟩) (by assumption) ?_; rotate_left; (focus (intro w' hSw; go_simp; try with_reducible rfl)); (try simp only [List.getElem_toArray]); (try simp only [List.getElem_cons_succ]); (try simp only [List.getElem_cons_zero]); (try simp only [Act.put]); (try simp only [List.setIfInBounds_toArray]); (try simp only [List.set_cons_succ]); (try simp only [List.set_cons_zero]))
        refine wpAnyH_done (by kernel_rfl) ?_ _
        go_wp2
        go_ret
        exact ⟨_, rfl, O9.out, hHeld⟩
      · skip
        go_simp
        have HX := Lib.hid (Blk.new u2 59 #[.int .i64 0, .int .u32 0, .slice Am L cm, .slice none 0 0])
        have EX : Ext u2 (u2.alloc (.cells #[.int .i64 0, .int .u32 0, .slice Am L cm, .slice none 0 0] 59)) := (Ext.refl _).alloc _
        refine hK.out _ _ (EE.trans EX) (fun hHeld => ?_)
        clear hK K
        (try simp only [Act.put]); (try simp only [List.getElem_toArray]); (try simp only [List.getElem_cons_succ]); (try simp only [List.getElem_cons_zero]); (try simp only [List.setIfInBounds_toArray]); (try simp only [List.set_cons_succ]); (try simp only [List.set_cons_zero])
        have hne : ∀ k, (Value.slice A1 1 c1).ownBlock = some k → ¬ u2.heap.size = k := fun k hk he => by have := (O1.out.row k hk).2; omega
        have O1 := Lib.hid (O1.out.ext EX)
        have O3 := Lib.hid (O3.out.ext EX)
        have EE := EE.trans EX
        generalize u2.alloc (.cells #[.int .i64 0, .int .u32 0, .slice Am L cm, .slice none 0 0] 59) = u6 at *
        generalize u2.heap.size = nX at *
        refine wpAnyH_ready (rs := [4]) (by kernel_rfl) (by simp) ?_
        refine AllReadyH.cons rfl (fun K hK => ?_) AllReadyH.nil
        refine step_app (e := FdR) (base := w.heap.size) (B := fun k => A k ∨ w.heap.size ≤ k) (A := fun _ => False) rfl (.tmp 4) (.tmp 6) rfl Tryz.underlying60 info_fd rfl O1.out rfl (O3.out.y.mono (fun k _ hk => hk.1)) rfl (fun k _ hk => hk.elim) (N := 5) rfl (by unfold maxLen; omega) (by omega) EE.size ?_
        intro A7 c7 u7 o7 M7 L7
        have hrow := O1.out.row
        have E7 : Ext w u7 := Mod.toExt EE M7 (fun k hk he => by have := (hrow k he).1; omega)
        refine hK.out _ _ E7 (fun hHeld => ?_)
        clear hK K
        (try simp only [Act.put]); (try simp only [List.getElem_toArray]); (try simp only [List.getElem_cons_succ]); (try simp only [List.getElem_cons_zero]); (try simp only [List.setIfInBounds_toArray]); (try simp only [List.set_cons_succ]); (try simp only [List.set_cons_zero])
        have O7 := Lib.hid o7
        have HX := Lib.hid (HX.out.mod M7 (fun he => hne _ he rfl))
        have EE := E7
        clear o7 O1 O3 M7 L7 E7 hrow
        refine wpAnyH_ready (rs := [12]) (by kernel_rfl) (by simp) ?_
        refine AllReadyH.cons rfl (fun K hK => ?_) AllReadyH.nil
        have HMD := Lib.hid (HM.out.ext EE)
        refine step_app (e := FdR) (base := w.heap.size) (B := fun k => A k ∨ w.heap.size ≤ k) (A := A) rfl (.tmp 7) (.tmp 14) rfl Tryz.underlying60 info_fd rfl O7.out rfl (RdY.singleB (e := FdR) (cs := [.int .i64 0, .int .u32 0, .slice Am L cm, .slice none 0 0]) (d := ⟨0, 0, r.mo⟩) ⟨_, rfl, HMD.out⟩ HX.out) rfl (fun k _ hk => ⟨.inl hk, fun he => by have := (O7.out.row k he).1; have := hA k hk; omega⟩) (N := 6) rfl (by unfold maxLen; omega) (by omega) EE.size ?_
        intro A9 c9 u8 o9 M9 L9
        have hrow := O7.out.row
        have E9 : Ext w u8 := Mod.toExt EE M9 (fun k hk he => by have := (hrow k he).1; omega)
        refine hK.out _ _ E9 (fun hHeld => ?_)
        clear hK K
        (try simp only [Act.put]); (try simp only [List.getElem_toArray]); (try simp only [List.getElem_cons_succ]); (try simp only [List.getElem_cons_zero]); (try simp only [List.setIfInBounds_toArray]); (try simp only [List.set_cons_succ]); (try simp only [List.set_cons_zero])
        have O9 := Lib.hid o9
        clear o9 O7 M9 L9 E9 hrow HX HMD EE
        (refine wpAnyH_take (i := 13) (v := ?_) rfl (by kernel_rfl) (by kernel_rfl) (by kernel_rfl) (fun _ _ _ h => h) (Or.inl ⟨by rfl, ?_⟩) (by assumption) ?_; rotate_left; (focus (intro w' hSw; go_simp; try with_reducible rfl)); (try simp only [List.getElem_toArray]); (try simp only [List.getElem_cons_succ]); (try simp only [List.getElem_cons_zero]); (try simp only [Act.put]); (try simp only [List.setIfInBounds_toArray]); (try simp only [List.set_cons_succ]); (try simp only [List.set_cons_zero]))
        refine wpAnyH_done (by kernel_rfl) ?_ _
        go_wp2
        go_ret
        exact ⟨_, rfl, O9.out, hHeld⟩
    · skip
      go_simp
      have HX := Lib.hid (Blk.new u1 59 #[.int .i64 0, .int .u32 0, .slice Am L cm, .slice none 0 0])
      have EX : Ext u1 (u1.alloc (.cells #[.int .i64 0, .int .u32 0, .slice Am L cm, .slice none 0 0] 59)) := (Ext.refl _).alloc _
      refine hK.out _ _ (EE.trans EX) (fun hHeld => ?_)
      clear hK K
      (try simp only [Act.put]); (try simp only [List.getElem_toArray]); (try simp only [List.getElem_cons_succ]); (try simp only [List.getElem_cons_zero]); (try simp only [List.setIfInBounds_toArray]); (try simp only [List.set_cons_succ]); (try simp only [List.set_cons_zero])
      have hne : ∀ k, (Value.slice A1 1 c1).ownBlock = some k → ¬ u1.heap.size = k := fun k hk he => by have := (O1.out.row k hk).2; omega
      have O1 := Lib.hid (O1.out.ext EX)
      have EE := EE.trans EX
      generalize u1.alloc (.cells #[.int .i64 0, .int .u32 0, .slice Am L cm, .slice none 0 0] 59) = u9 at *
      generalize u1.heap.size = nX at *
      refine wpAnyH_ready (rs := [3]) (by kernel_rfl) (by simp) ?_
      refine AllReadyH.cons rfl (fun K hK => ?_) AllReadyH.nil
      go_simp
      refine (HS.out u9 EE).mono ?_
      rintro e u10 ⟨v3, rfl, o3, E10⟩
      (try dsimp only)
      refine hK.out _ _ (EE.trans E10) (fun hHeld => ?_)
      clear hK K
      (try simp only [Act.put]); (try simp only [List.getElem_toArray]); (try simp only [List.getElem_cons_succ]); (try simp only [List.getElem_cons_zero]); (try simp only [List.setIfInBounds_toArray]); (try simp only [List.set_cons_succ]); (try simp only [List.set_cons_zero])
      obtain ⟨A3, c3, rfl, -, -⟩ := o3.shape
      have O3 := Lib.hid o3
      have O1 := Lib.hid (O1.out.ext E10)
      have HX := Lib.hid (HX.out.ext E10)
      have EE := EE.trans E10
      clear o3
      refine wpAnyH_ready (rs := [4]) (by kernel_rfl) (by simp) ?_
      refine AllReadyH.cons rfl (fun K hK => ?_) AllReadyH.nil
      refine step_app (e := FdR) (base := w.heap.size) (B := fun k => A k ∨ w.heap.size ≤ k) (A := fun _ => False) rfl (.tmp 4) (.tmp 6) rfl Tryz.underlying60 info_fd rfl O1.out rfl (O3.out.y.mono (fun k _ hk => hk.1)) rfl (fun k _ hk => hk.elim) (N := 5) rfl (by unfold maxLen; omega) (by omega) EE.size ?_
      intro A7 c7 u11 o7 M7 L7
      have hrow := O1.out.row
      have E7 : Ext w u11 := Mod.toExt EE M7 (fun k hk he => by have := (hrow k he).1; omega)
      refine hK.out _ _ E7 (fun hHeld => ?_)
      clear hK K
      (try simp only [Act.put]); (try simp only [List.getElem_toArray]); (try simp only [List.getElem_cons_succ]); (try simp only [List.getElem_cons_zero]); (try simp only [List.setIfInBounds_toArray]); (try simp only [List.set_cons_succ]); (try simp only [List.set_cons_zero])
      have O7 := Lib.hid o7
      have HX := Lib.hid (HX.out.mod M7 (fun he => hne _ he rfl))
      have EE := E7
      clear o7 O1 O3 M7 L7 E7 hrow
      refine wpAnyH_ready (rs := [12]) (by kernel_rfl) (by simp) ?_
      refine AllReadyH.cons rfl (fun K hK => ?_) AllReadyH.nil
      have HMD := Lib.hid (HM.out.ext EE)
      refine step_app (e := FdR) (base := w.heap.size) (B := fun k => A k ∨ w.heap.size ≤ k) (A := A) rfl (.tmp 7) (.tmp 14) rfl Tryz.underlying60 info_fd rfl O7.out rfl (RdY.singleB (e := FdR) (cs := [.int .i64 0, .int .u32 0, .slice Am L cm, .slice none 0 0]) (d := ⟨0, 0, r.mo⟩) ⟨_, rfl, HMD.out⟩ HX.out) rfl (fun k _ hk => ⟨.inl hk, fun he => by have := (O7.out.row k he).1; have := hA k hk; omega⟩) (N := 6) rfl (by unfold maxLen; omega) (by omega) EE.size ?_
      intro A9 c9 u12 o9 M9 L9
      have hrow := O7.out.row
      have E9 : Ext w u12 := Mod.toExt EE M9 (fun k hk he => by have := (hrow k he).1; omega)
      refine hK.out _ _ E9 (fun hHeld => ?_)
      clear hK K
      (try simp only [Act.put]); (try simp only [List.getElem_toArray]); (try simp only [List.getElem_cons_succ]); (try simp only [List.getElem_cons_zero]); (try simp only [List.setIfInBounds_toArray]); (try simp only [List.set_cons_succ]); (try simp only [List.set_cons_zero])
      have O9 := Lib.hid o9
      clear o9 O7 M9 L9 E9 hrow HX HMD EE
      (refine wpAnyH_take (i := 13) (v := ?_) rfl (by kernel_rfl) (by kernel_rfl) (by kernel_rfl) (fun _ _ _ h => h) (Or.inl ⟨by rfl, ?_⟩) (by assumption) ?_; rotate_left; (focus (intro w' hSw; go_simp; try with_reducible rfl)); (try simp only [List.getElem_toArray]); (try simp only [List.getElem_cons_succ]); (try simp only [List.getElem_cons_zero]); (try simp only [Act.put]); (try simp only [List.setIfInBounds_toArray]); (try simp only [List.set_cons_succ]); (try simp only [List.set_cons_zero]))
      refine wpAnyH_done (by kernel_rfl) ?_ _
      go_wp2
      go_ret
      exact ⟨_, rfl, O9.out, hHeld⟩
  · skip
    go_simp
    have HX := Lib.hid (Blk.new D 59 #[.int .i64 0, .int .u32 0, .slice Am L cm, .slice none 0 0])
    have EX : Ext D (D.alloc (.cells #[.int .i64 0, .int .u32 0, .slice Am L cm, .slice none 0 0] 59)) := (Ext.refl _).alloc _
    refine hK.out _ _ (EE.trans EX) (fun hHeld => ?_)
    clear hK K
    (try simp only [Act.put]); (try simp only [List.getElem_toArray]); (try simp only [List.getElem_cons_succ]); (try simp only [List.getElem_cons_zero]); (try simp only [List.setIfInBounds_toArray]); (try simp only [List.set_cons_succ]); (try simp only [List.set_cons_zero])
    have EE := EE.trans EX
    generalize D.alloc (.cells #[.int .i64 0, .int .u32 0, .slice Am L cm, .slice none 0 0] 59) = u13 at *
    generalize D.heap.size = nX at *
    refine wpAnyH_ready (rs := [1]) (by kernel_rfl) (by simp) ?_
    refine AllReadyH.cons rfl (fun K hK => ?_) AllReadyH.nil
    go_simp
    refine (HT.out u13 EE).mono ?_
    rintro e u14 ⟨v1, rfl, o1, E14⟩
    (try dsimp only)
    refine hK.out _ _ (EE.trans E14) (fun hHeld => ?_)
    clear hK K
    (try simp only [Act.put]); (try simp only [List.getElem_toArray]); (try simp only [List.getElem_cons_succ]); (try simp only [List.getElem_cons_zero]); (try simp only [List.setIfInBounds_toArray]); (try simp only [List.set_cons_succ]); (try simp only [List.set_cons_zero])
    obtain ⟨A1, c1, rfl, -, -⟩ := o1.shape
    have O1 := Lib.hid ((o1.lower EE.size).mono (B := fun k => A k ∨ w.heap.size ≤ k) (fun k _ hk => by have := EE.size; rcases hk with hk | hk; exact .inl hk; exact .inr (by omega)))
    have hne : ∀ k, (Value.slice A1 1 c1).ownBlock = some k → ¬ nX = k := fun k hk he => by have := (o1.row k hk).1; have := HX.out.lt; omega
    have HX := Lib.hid (HX.out.ext E14)
    have EE := EE.trans E14
    clear o1
    refine wpAnyH_ready (rs := [3]) (by kernel_rfl) (by simp) ?_
    refine AllReadyH.cons rfl (fun K hK => ?_) AllReadyH.nil
    go_simp
    refine (HS.out u14 EE).mono ?_
    rintro e u15 ⟨v3, rfl, o3, E15⟩
    (try dsimp only)
    refine hK.out _ _ (EE.trans E15) (fun hHeld => ?_)
    clear hK K
    (try simp only [Act.put]); (try simp only [List.getElem_toArray]); (try simp only [List.getElem_cons_succ]); (try simp only [List.getElem_cons_zero]); (try simp only [List.setIfInBounds_toArray]); (try simp only [List.set_cons_succ]); (try simp only [List.set_cons_zero])
    obtain ⟨A3, c3, rfl, -, -⟩ := o3.shape
    have O3 := Lib.hid o3
    have O1 := Lib.hid (O1.out.ext E15)
    have HX := Lib.hid (HX.out.ext E15)
    have EE := EE.trans E15
    clear o3
    refine wpAnyH_ready (rs := [4]) (by kernel_rfl) (by simp) ?_
    refine AllReadyH.cons rfl (fun K hK => ?_) AllReadyH.nil
    refine step_app (e := FdR) (base := w.heap.size) (B := fun k => A k ∨ w.heap.size ≤ k) (A := fun _ => False) rfl (.tmp 4) (.tmp 6) rfl Tryz.underlying60 info_fd rfl O1.out rfl (O3.out.y.mono (fun k _ hk => hk.1)) rfl (fun k _ hk => hk.elim) (N := 5) rfl (by unfold maxLen; omega) (by omega) EE.size ?_
    intro A7 c7 u16 o7 M7 L7
    have hrow := O1.out.row
    have E7 : Ext w u16 := Mod.toExt EE M7 (fun k hk he => by have := (hrow k he).1; omega)
    refine hK.out _ _ E7 (fun hHeld => ?_)
    clear hK K
    (try simp only [Act.put]); (try simp only [List.getElem_toArray]); (try simp only [List.getElem_cons_succ]); (try simp only [List.getElem_cons_zero]); (try simp only [List.setIfInBounds_toArray]); (try simp only [List.set_cons_succ]); (try simp only [List.set_cons_zero])
    have O7 := Lib.hid o7
    have HX := Lib.hid (HX.out.mod M7 (fun he => hne _ he rfl))
    have EE := E7
    clear o7 O1 O3 M7 L7 E7 hrow
    refine wpAnyH_ready (rs := [12]) (by kernel_rfl) (by simp) ?_
    refine AllReadyH.cons rfl (fun K hK => ?_) AllReadyH.nil
    have HMD := Lib.hid (HM.out.ext EE)
    refine step_app (e := FdR) (base := w.heap.size) (B := fun k => A k ∨ w.heap.size ≤ k) (A := A) rfl (.tmp 7) (.tmp 14) rfl Tryz.underlying60 info_fd rfl O7.out rfl (RdY.singleB (e := FdR) (cs := [.int .i64 0, .int .u32 0, .slice Am L cm, .slice none 0 0]) (d := ⟨0, 0, r.mo⟩) ⟨_, rfl, HMD.out⟩ HX.out) rfl (fun k _ hk => ⟨.inl hk, fun he => by have := (O7.out.row k he).1; have := hA k hk; omega⟩) (N := 6) rfl (by unfold maxLen; omega) (by omega) EE.size ?_
    intro A9 c9 u17 o9 M9 L9
    have hrow := O7.out.row
    have E9 : Ext w u17 := Mod.toExt EE M9 (fun k hk he => by have := (hrow k he).1; omega)
    refine hK.out _ _ E9 (fun hHeld => ?_)
    clear hK K
    (try simp only [Act.put]); (try simp only [List.getElem_toArray]); (try simp only [List.getElem_cons_succ]); (try simp only [List.getElem_cons_zero]); (try simp only [List.setIfInBounds_toArray]); (try simp only [List.set_cons_succ]); (try simp only [List.set_cons_zero])
    have O9 := Lib.hid o9
    clear o9 O7 M9 L9 E9 hrow HX HMD EE
    (refine wpAnyH_take (i := 13) (v := ?_) rfl (by kernel_rfl) (by kernel_rfl) (by kernel_rfl) (fun _ _ _ h => h) (Or.inl ⟨by rfl, ?_⟩) (by assumption) ?_; rotate_left; (focus (intro w' hSw; go_simp; try with_reducible rfl)); (try simp only [List.getElem_toArray]); (try simp only [List.getElem_cons_succ]); (try simp only [List.getElem_cons_zero]); (try simp only [Act.put]); (try simp only [List.setIfInBounds_toArray]); (try simp only [List.set_cons_succ]); (try simp only [List.set_cons_zero]))
    refine wpAnyH_done (by kernel_rfl) ?_ _
    go_wp2
    go_ret
    exact ⟨_, rfl, O9.out, hHeld⟩
end Go.Proofs.YtldijmappinngaaGreatDoor
