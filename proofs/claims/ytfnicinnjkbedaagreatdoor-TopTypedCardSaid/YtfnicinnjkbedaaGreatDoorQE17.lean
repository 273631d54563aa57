/- A line discipline sees to its marks, by contract. Conditions: little waits, nothing is held. -/
import Derived.Test.YtfnicinnjkbedaaGreatDoorQD17
import Derived.Defers
namespace Go.Proofs.YtfnicinnjkbedaaGreatDoor
open Go.RowKit Go.Kb
set_option maxRecDepth 100000

theorem putD_nil {d : Ds} (h : d.Ok) : d.putD [] = d := by
  unfold Ds.putD
  rw [if_pos (by have := h.out; simp; omega)]
  simp
set_option maxHeartbeats 3000000 in
theorem dmarks_any {S : Nat → Prop} {g : Nat} (d : Ds) (w : World) (h : Dsc S g w d) (hhd : d.hd = false) (hu : d.used < 768) (h1 : Ca.usedL d.ls ≤ 100000) (h2 : d.line.length ≤ 100000) (h3 : d.raw.length ≤ 100000) :
    Calls Tryz.prog 41 #[.pointer (some ⟨g, 0, none⟩)] w fun e w' => e = .returned (.tuple #[]) ∧ Dsc S g w' d ∧ Mod (fun j => j = g) w w' := by
  have hD0 := Lib.hid h
  obtain ⟨ok, hS, vl, vs, vr, vo, hD, hR⟩ := h
  have hn := Tm.size ok.t
  have hil : (Tryz.prog.info? 26).map (·.size) = some d.t.arr.toList.length := by rw [Array.length_toList, hn]; kernel_rfl
  have HS := Lib.hid hS
  have HR := Lib.hid hR
  have HD := Lib.hid hD
  have HOK := Lib.hid ok
  have KC := Lib.hid (TmC.of hD hn)
  clear hS hR hD ok
  have hmk : Fl.markL d.t d.hd d.used 256 768 = (false, []) := by
    unfold Fl.markL
    rw [hhd]
    rw [if_neg (by simp), if_neg (by intro h; omega)]
  have HMK := Lib.hid (fun w' => Fl.mark_any d.t d.st d.hd d.used 256 768 w' HOK.out.t)
  rw [hmk] at HMK
  unfold Fl.MarkPost at HMK
  dsimp only [List.length_nil, List.map_nil] at HMK
  have k4 := KC.out.k4
  have k5 := KC.out.k5
  rw [hhd] at HMK k5
  have HHD := Lib.hid hhd
  clear hmk hu hhd
  go_enter Tryz.func41, Tryz.ntmps41
  go_upto_region 0 with fail
  refine wp_region_held_drew (S := fun w' => Ext w w') (by kernel_rfl) (Ext.drew (Ext.refl _)) (fun hHeld => ?_)
  (refine wpAnyH_take (i := 0) (v := ?_) rfl (by kernel_rfl) (by kernel_rfl) (by kernel_rfl) (fun _ _ _ h => h) (Or.inl ⟨by rfl, ?_⟩) (by assumption) ?_; rotate_left; (focus (intro w' hSw; go_simp; try with_reducible rfl)); (try simp only [List.getElem_toArray]); (try simp only [List.getElem_cons_succ]); (try simp only [List.getElem_cons_zero]); (try simp only [Act.put]); (try simp only [List.setIfInBounds_toArray]); (try simp only [List.set_cons_succ]); (try simp only [List.set_cons_zero]))
  (refine wpAnyH_take (i := 1) (v := ?_) rfl (by kernel_rfl) (by kernel_rfl) (by kernel_rfl) (fun _ _ _ h => h) (Or.inl ⟨by rfl, ?_⟩) (by assumption) ?_; rotate_left; (focus (intro w' hSw; go_simp; try with_reducible rfl)); (try simp only [List.getElem_toArray]); (try simp only [List.getElem_cons_succ]); (try simp only [List.getElem_cons_zero]); (try simp only [Act.put]); (try simp only [List.setIfInBounds_toArray]); (try simp only [List.set_cons_succ]); (try simp only [List.set_cons_zero]))
  (refine wpAnyH_take (i := 2) (v := ?_) rfl (by kernel_rfl) (by kernel_rfl) (by kernel_rfl) (fun _ _ _ h => h) (Or.inl ⟨by rfl, ?_⟩) (by assumption) ?_; rotate_left; (focus (intro w' hSw; go_simp; try with_reducible rfl)); (try simp only [List.getElem_toArray]); (try simp only [List.getElem_cons_succ]); (try simp only [List.getElem_cons_zero]); (try simp only [Act.put]); (try simp only [List.setIfInBounds_toArray]); (try simp only [List.set_cons_succ]); (try simp only [List.set_cons_zero]))
  (refine wpAnyH_take (i := 3) (v := .agg (d.t.arr).toList.toArray) rfl (by kernel_rfl) (by kernel_rfl) (by kernel_rfl) (fun _ _ _ h => h) (yieldsIf_load_mid (by rfl) 26 _ rfl _ _ rfl (d.t.arr).toList _ (fun w' hSw => tmA_mid (HD.out.ext hSw)) Tryz.underlying26 rfl hil) (by assumption) ?_; simp only [Array.toArray_toList]; (try simp only [Act.put]); (try simp only [List.getElem_toArray]); (try simp only [List.getElem_cons_succ]); (try simp only [List.getElem_cons_zero]); (try simp only [List.setIfInBounds_toArray]); (try simp only [List.set_cons_succ]); (try simp only [List.set_cons_zero]))
  (refine wpAnyH_take (i := 4) (v := ?_) rfl (by kernel_rfl) (by kernel_rfl) (by kernel_rfl) (fun _ _ _ h => h) (Or.inl ⟨by rfl, ?_⟩) (by assumption) ?_; rotate_left; (focus (intro w' hSw; go_simp; try with_reducible rfl)); (try simp only [List.getElem_toArray]); (try simp only [List.getElem_cons_succ]); (try simp only [List.getElem_cons_zero]); (try simp only [Act.put]); (try simp only [List.setIfInBounds_toArray]); (try simp only [List.set_cons_succ]); (try simp only [List.set_cons_zero]))
  (refine wpAnyH_take (i := 5) (v := ?_) rfl (by kernel_rfl) (by kernel_rfl) (by kernel_rfl) (fun _ _ _ h => h) (Or.inl ⟨by rfl, ?_⟩) (by assumption) ?_; rotate_left; (focus (intro w' hSw; go_simp; try with_reducible rfl)); (try simp only [List.getElem_toArray]); (try simp only [List.getElem_cons_succ]); (try simp only [List.getElem_cons_zero]); (try simp only [Act.put]); (try simp only [List.setIfInBounds_toArray]); (try simp only [List.set_cons_succ]); (try simp only [List.set_cons_zero]))
  (refine wpAnyH_take (i := 6) (v := ?_) rfl (by kernel_rfl) (by kernel_rfl) (by kernel_rfl) (fun _ _ _ h => h) (Or.inl ⟨by rfl, ?_⟩) (by assumption) ?_; rotate_left; (focus (intro w' hSw; go_simp; try with_reducible rfl)); (try simp only [List.getElem_toArray]); (try simp only [List.getElem_cons_succ]); (try simp only [List.getElem_cons_zero]); (try simp only [Act.put]); (try simp only [List.setIfInBounds_toArray]); (try simp only [List.set_cons_succ]); (try simp only [List.set_cons_zero]))
  (refine wpAnyH_take (i := 7) (v := ?_) rfl (by kernel_rfl) (by kernel_rfl) (by kernel_rfl) (fun _ _ _ h => h) (Or.inl ⟨by rfl, ?_⟩) (by assumption) ?_; rotate_left; (focus (intro w' hSw; have kc4 := cell_ext hSw k4; have kc5 := cell_ext hSw k5; go_simp; try with_reducible rfl)); (try simp only [List.getElem_toArray]); (try simp only [List.getElem_cons_succ]); (try simp only [List.getElem_cons_zero]); (try simp only [Act.put]); (try simp only [List.setIfInBounds_toArray]); (try simp only [List.set_cons_succ]); (try simp only [List.set_cons_zero]))
  (refine wpAnyH_take (i := 8) (v := ?_) rfl (by kernel_rfl) (by kernel_rfl) (by kernel_rfl) (fun _ _ _ h => h) (Or.inl ⟨by rfl, ?_⟩) (by assumption) ?_; rotate_left; (focus (intro w' hSw; go_simp; try with_reducible rfl)); (try simp only [List.getElem_toArray]); (try simp only [List.getElem_cons_succ]); (try simp only [List.getElem_cons_zero]); (try simp only [Act.put]); (try simp only [List.setIfInBounds_toArray]); (try simp only [List.set_cons_succ]); (try simp only [List.set_cons_zero]))
  have EH : Ext w w.drew := Ext.drew (Ext.refl _)
  have HD1 := Lib.hid (hD0.out.ext EH)
  clear hHeld
  generalize w.drew = w19 at *
  refine wpAnyH_ready (rs := [9, 14]) (by kernel_rfl) (by simp) ?_
  refine (AllReadyH.cons rfl (fun K hK => ?_) (AllReadyH.cons rfl (fun K hK => ?_) AllReadyH.nil))
  ·
    go_simp
    go_at_call 23
    refine (dused_any d w19 HD1.out h1 h2 h3).mono ?_
    rintro e w20 ⟨rfl, E3⟩
    (try dsimp only)
    refine hK.out _ _ (EH.trans E3) (fun hHeld => ?_)
    clear hK K hHeld
    (try simp only [List.getElem_toArray]); (try simp only [List.getElem_cons_succ]); (try simp only [List.getElem_cons_zero]); (try simp only [Act.put]); (try simp only [List.setIfInBounds_toArray]); (try simp only [List.set_cons_succ]); (try simp only [List.set_cons_zero])
    have HD1 := Lib.hid (HD1.out.ext E3)
    have EH := EH.trans E3
    clear E3
    refine wpAnyH_ready (rs := [10, 14]) (by kernel_rfl) (by simp) ?_
    refine (AllReadyH.cons rfl (fun K hK => ?_) (AllReadyH.cons rfl (fun K hK => ?_) AllReadyH.nil))
    ·
      go_simp
      go_at_call 79
      refine (HMK.out w20).mono ?_
      rintro e w21 ⟨A9, c9, rfl, r9, -, E3⟩
      (try dsimp only)
      refine hK.out _ _ (EH.trans E3) (fun hHeld => ?_)
      clear hK K hHeld
      (try simp only [List.getElem_toArray]); (try simp only [List.getElem_cons_succ]); (try simp only [List.getElem_cons_zero]); (try simp only [Act.put]); (try simp only [List.setIfInBounds_toArray]); (try simp only [List.set_cons_succ]); (try simp only [List.set_cons_zero])
      have HR9 := Lib.hid r9
      clear r9
      have HD1 := Lib.hid (HD1.out.ext E3)
      have HR9 := Lib.hid (HR9.out)
      have EH := EH.trans E3
      clear E3
      have hHeld : Ext w w21 := EH
      (refine wpAnyH_take (i := 11) (v := ?_) rfl (by kernel_rfl) (by kernel_rfl) (by kernel_rfl) (fun _ _ _ h => h) (Or.inl ⟨by rfl, ?_⟩) (by assumption) ?_; rotate_left; (focus (intro w' hSw; go_simp; try with_reducible rfl)); (try simp only [List.getElem_toArray]); (try simp only [List.getElem_cons_succ]); (try simp only [List.getElem_cons_zero]); (try simp only [Act.put]); (try simp only [List.setIfInBounds_toArray]); (try simp only [List.set_cons_succ]); (try simp only [List.set_cons_zero]))
      (refine wpAnyH_take (i := 12) (v := ?_) rfl (by kernel_rfl) (by kernel_rfl) (by kernel_rfl) (fun _ _ _ h => h) (Or.inl ⟨by rfl, ?_⟩) (by assumption) ?_; rotate_left; (focus (intro w' hSw; go_simp; try with_reducible rfl)); (try simp only [List.getElem_toArray]); (try simp only [List.getElem_cons_succ]); (try simp only [List.getElem_cons_zero]); (try simp only [Act.put]); (try simp only [List.setIfInBounds_toArray]); (try simp only [List.set_cons_succ]); (try simp only [List.set_cons_zero]))
      (refine wpAnyH_take (i := 13) (v := ?_) rfl (by kernel_rfl) (by kernel_rfl) (by kernel_rfl) (fun _ _ _ h => h) (Or.inl ⟨by rfl, ?_⟩) (by assumption) ?_; rotate_left; (focus (intro w' hSw; go_simp; try with_reducible rfl)); (try simp only [List.getElem_toArray]); (try simp only [List.getElem_cons_succ]); (try simp only [List.getElem_cons_zero]); (try simp only [Act.put]); (try simp only [List.setIfInBounds_toArray]); (try simp only [List.set_cons_succ]); (try simp only [List.set_cons_zero]))
      clear hHeld
      refine wpAnyH_ready (rs := [14]) (by kernel_rfl) (by simp) ?_
      refine (AllReadyH.cons rfl (fun K hK => ?_) AllReadyH.nil)
      go_simp
      refine hK.out _ _ (EH.alloc _) (fun hHeld => ?_)
      clear hK K hHeld
      (try simp only [List.getElem_toArray]); (try simp only [List.getElem_cons_succ]); (try simp only [List.getElem_cons_zero]); (try simp only [Act.put]); (try simp only [List.setIfInBounds_toArray]); (try simp only [List.set_cons_succ]); (try simp only [List.set_cons_zero])
      have HD1 := Lib.hid (HD1.out.ext ((Ext.refl _).alloc (.cells #[.bool false, .bool false] 80)))
      have HR9 := Lib.hid (HR9.out.ext ((Ext.refl _).alloc (.cells #[.bool false, .bool false] 80)))
      have B6 := Lib.hid (Blk.new w21 80 #[.bool false, .bool false])
      obtain ⟨n6, hn6⟩ : ∃ n6, w21.heap.size = n6 := ⟨_, rfl⟩
      have hn6W : w.heap.size ≤ n6 := by rw [← hn6]; exact EH.size
      have EH := EH.alloc (.cells #[.bool false, .bool false] 80)
      rw [hn6] at B6 ⊢
      clear hn6
      generalize w21.alloc _ = w22 at *
      have LB6 := B6.out.lt
      have hHeld : Ext w w22 := EH
      have hn6w : w.heap.size ≤ n6 := hn6W
      refine wpAnyH_ready (rs := [15]) (by kernel_rfl) (by simp) ?_
      refine AllReadyH.cons rfl (fun K hK => ?_) AllReadyH.nil
      rw [if_pos (by rfl)]
      refine wp_store_A 80 _ _ rfl n6 #[.bool d.st, .bool false] rfl rfl 80 _ B6.out (by kernel_rfl) rfl (by simp [Value.oneCell']) ?_
      intro w5 H5 E5
      have E5 := E5 w.heap.size w EH hn6w
      refine hK.out _ _ E5 (fun hHeld => ?_)
      clear hK K
      (try simp only [List.getElem_toArray]); (try simp only [List.getElem_cons_succ]); (try simp only [List.getElem_cons_zero]); (try simp only [Act.put]); (try simp only [List.setIfInBounds_toArray]); (try simp only [List.set_cons_succ]); (try simp only [List.set_cons_zero])
      (refine wpAnyH_take (i := 16) (v := ?_) rfl (by kernel_rfl) (by kernel_rfl) (by kernel_rfl) (fun _ _ _ h => h) (Or.inl ⟨by rfl, ?_⟩) (by assumption) ?_; rotate_left; (focus (intro w' hSw; go_simp; try with_reducible rfl)); (try simp only [List.getElem_toArray]); (try simp only [List.getElem_cons_succ]); (try simp only [List.getElem_cons_zero]); (try simp only [Act.put]); (try simp only [List.setIfInBounds_toArray]); (try simp only [List.set_cons_succ]); (try simp only [List.set_cons_zero]))
      refine wpAnyH_done (by kernel_rfl) ?_ _
      have hne6 : g ≠ n6 := by have := HS.out.2 g HS.out.1; omega
      have D5 := hD0.out.ext E5
      obtain ⟨x0, x1, -, -⟩ := H5.two
      have B5 := HD.out.ext E5
      have HB5 := Lib.hid B5
      have q4 := (TmC.of B5 hn).k4
      have q5 := (TmC.of B5 hn).k5
      rw [HHD.out] at q5
      have fq4 := B5.frozen 28
      have fq5 := B5.frozen 29
      have HR5 := Lib.hid (HR.out.ext E5)
      have EE := Lib.hid E5
      clear B5 E5 D5 hHeld H5 HD1
      have D6 : Dsc S g ((w5.setCell ⟨g, 28, none⟩ (.bool d.st)).setCell ⟨g, 29, none⟩ (.bool false)) d := by
        refine ⟨HOK.out, ⟨HS.out.1, fun j hj => ?_⟩, vl, vs, vr, vo, ?_, (HR5.out.set_ HS.out.1 _ _).set_ HS.out.1 _ _⟩
        · have := HS.out.2 j hj
          have := EE.out.size
          simp
          omega
        · have hB := blk_tmset (blk_tmset HB5.out hn 4 rfl (.bool d.st)) hn 5 rfl (.bool false)
          show Blk _ g _ (tmA d.t.arr [_, _, _, _, _, .bool d.hd, _, _, _, _])
          rw [HHD.out]
          exact hB
      have HD6 := Lib.hid D6
      have M6 := Lib.hid (((Mod.of_ext EE.out).set1 (g := g) (o := 28) (.bool d.st)).set1 (o := 29) (.bool false))
      clear D6 HB5 HR5
      go_wp2_with fail
      refine (dput_any d _ [] _ HD6.out (HR9.out.keep fun b off j u hu => by simp at hu) (fun x hx => by cases hx) (by simp)).mono ?_
      rintro e w7 ⟨rfl, P7, M7⟩
      rw [putD_nil HOK.out] at P7
      have HP7 := Lib.hid P7
      have HM7 := Lib.hid (M6.out.trans M7)
      clear P7 M7
      go_wp2
      refine bodyPost_end (v := .tuple #[]) (by simp [results, Tryz.results41]) rfl ?_
      exact ⟨rfl, HP7.out, HM7.out⟩
    ·
      go_simp
      refine hK.out _ _ (EH.alloc _) (fun hHeld => ?_)
      clear hK K hHeld
      (try simp only [List.getElem_toArray]); (try simp only [List.getElem_cons_succ]); (try simp only [List.getElem_cons_zero]); (try simp only [Act.put]); (try simp only [List.setIfInBounds_toArray]); (try simp only [List.set_cons_succ]); (try simp only [List.set_cons_zero])
      have HD1 := Lib.hid (HD1.out.ext ((Ext.refl _).alloc (.cells #[.bool false, .bool false] 80)))
      have B6 := Lib.hid (Blk.new w20 80 #[.bool false, .bool false])
      obtain ⟨n6, hn6⟩ : ∃ n6, w20.heap.size = n6 := ⟨_, rfl⟩
      have hn6W : w.heap.size ≤ n6 := by rw [← hn6]; exact EH.size
      have EH := EH.alloc (.cells #[.bool false, .bool false] 80)
      rw [hn6] at B6 ⊢
      clear hn6
      generalize w20.alloc _ = w21 at *
      have LB6 := B6.out.lt
      refine wpAnyH_ready (rs := [10]) (by kernel_rfl) (by simp) ?_
      refine (AllReadyH.cons rfl (fun K hK => ?_) AllReadyH.nil)
      go_simp
      go_at_call 79
      refine (HMK.out w21).mono ?_
      rintro e w22 ⟨A9, c9, rfl, r9, -, E3⟩
      (try dsimp only)
      refine hK.out _ _ (EH.trans E3) (fun hHeld => ?_)
      clear hK K hHeld
      (try simp only [List.getElem_toArray]); (try simp only [List.getElem_cons_succ]); (try simp only [List.getElem_cons_zero]); (try simp only [Act.put]); (try simp only [List.setIfInBounds_toArray]); (try simp only [List.set_cons_succ]); (try simp only [List.set_cons_zero])
      have HR9 := Lib.hid r9
      clear r9
      have HD1 := Lib.hid (HD1.out.ext E3)
      have B6 := Lib.hid (B6.out.ext E3)
      have HR9 := Lib.hid (HR9.out)
      have EH := EH.trans E3
      have LB6 := B6.out.lt
      clear E3
      have hHeld : Ext w w22 := EH
      (refine wpAnyH_take (i := 11) (v := ?_) rfl (by kernel_rfl) (by kernel_rfl) (by kernel_rfl) (fun _ _ _ h => h) (Or.inl ⟨by rfl, ?_⟩) (by assumption) ?_; rotate_left; (focus (intro w' hSw; go_simp; try with_reducible rfl)); (try simp only [List.getElem_toArray]); (try simp only [List.getElem_cons_succ]); (try simp only [List.getElem_cons_zero]); (try simp only [Act.put]); (try simp only [List.setIfInBounds_toArray]); (try simp only [List.set_cons_succ]); (try simp only [List.set_cons_zero]))
      (refine wpAnyH_take (i := 12) (v := ?_) rfl (by kernel_rfl) (by kernel_rfl) (by kernel_rfl) (fun _ _ _ h => h) (Or.inl ⟨by rfl, ?_⟩) (by assumption) ?_; rotate_left; (focus (intro w' hSw; go_simp; try with_reducible rfl)); (try simp only [List.getElem_toArray]); (try simp only [List.getElem_cons_succ]); (try simp only [List.getElem_cons_zero]); (try simp only [Act.put]); (try simp only [List.setIfInBounds_toArray]); (try simp only [List.set_cons_succ]); (try simp only [List.set_cons_zero]))
      (refine wpAnyH_take (i := 13) (v := ?_) rfl (by kernel_rfl) (by kernel_rfl) (by kernel_rfl) (fun _ _ _ h => h) (Or.inl ⟨by rfl, ?_⟩) (by assumption) ?_; rotate_left; (focus (intro w' hSw; go_simp; try with_reducible rfl)); (try simp only [List.getElem_toArray]); (try simp only [List.getElem_cons_succ]); (try simp only [List.getElem_cons_zero]); (try simp only [Act.put]); (try simp only [List.setIfInBounds_toArray]); (try simp only [List.set_cons_succ]); (try simp only [List.set_cons_zero]))
      clear hHeld
      have hHeld : Ext w w22 := EH
      have hn6w : w.heap.size ≤ n6 := hn6W
      refine wpAnyH_ready (rs := [15]) (by kernel_rfl) (by simp) ?_
      refine AllReadyH.cons rfl (fun K hK => ?_) AllReadyH.nil
      rw [if_pos (by rfl)]
      refine wp_store_A 80 _ _ rfl n6 #[.bool d.st, .bool false] rfl rfl 80 _ B6.out (by kernel_rfl) rfl (by simp [Value.oneCell']) ?_
      intro w5 H5 E5
      have E5 := E5 w.heap.size w EH hn6w
      refine hK.out _ _ E5 (fun hHeld => ?_)
      clear hK K
      (try simp only [List.getElem_toArray]); (try simp only [List.getElem_cons_succ]); (try simp only [List.getElem_cons_zero]); (try simp only [Act.put]); (try simp only [List.setIfInBounds_toArray]); (try simp only [List.set_cons_succ]); (try simp only [List.set_cons_zero])
      (refine wpAnyH_take (i := 16) (v := ?_) rfl (by kernel_rfl) (by kernel_rfl) (by kernel_rfl) (fun _ _ _ h => h) (Or.inl ⟨by rfl, ?_⟩) (by assumption) ?_; rotate_left; (focus (intro w' hSw; go_simp; try with_reducible rfl)); (try simp only [List.getElem_toArray]); (try simp only [List.getElem_cons_succ]); (try simp only [List.getElem_cons_zero]); (try simp only [Act.put]); (try simp only [List.setIfInBounds_toArray]); (try simp only [List.set_cons_succ]); (try simp only [List.set_cons_zero]))
      refine wpAnyH_done (by kernel_rfl) ?_ _
      have hne6 : g ≠ n6 := by have := HS.out.2 g HS.out.1; omega
      have D5 := hD0.out.ext E5
      obtain ⟨x0, x1, -, -⟩ := H5.two
      have B5 := HD.out.ext E5
      have HB5 := Lib.hid B5
      have q4 := (TmC.of B5 hn).k4
      have q5 := (TmC.of B5 hn).k5
      rw [HHD.out] at q5
      have fq4 := B5.frozen 28
      have fq5 := B5.frozen 29
      have HR5 := Lib.hid (HR.out.ext E5)
      have EE := Lib.hid E5
      clear B5 E5 D5 hHeld H5 HD1
      have D6 : Dsc S g ((w5.setCell ⟨g, 28, none⟩ (.bool d.st)).setCell ⟨g, 29, none⟩ (.bool false)) d := by
        refine ⟨HOK.out, ⟨HS.out.1, fun j hj => ?_⟩, vl, vs, vr, vo, ?_, (HR5.out.set_ HS.out.1 _ _).set_ HS.out.1 _ _⟩
        · have := HS.out.2 j hj
          have := EE.out.size
          simp
          omega
        · have hB := blk_tmset (blk_tmset HB5.out hn 4 rfl (.bool d.st)) hn 5 rfl (.bool false)
          show Blk _ g _ (tmA d.t.arr [_, _, _, _, _, .bool d.hd, _, _, _, _])
          rw [HHD.out]
          exact hB
      have HD6 := Lib.hid D6
      have M6 := Lib.hid (((Mod.of_ext EE.out).set1 (g := g) (o := 28) (.bool d.st)).set1 (o := 29) (.bool false))
      clear D6 HB5 HR5
      go_wp2_with fail
      refine (dput_any d _ [] _ HD6.out (HR9.out.keep fun b off j u hu => by simp at hu) (fun x hx => by cases hx) (by simp)).mono ?_
      rintro e w7 ⟨rfl, P7, M7⟩
      rw [putD_nil HOK.out] at P7
      have HP7 := Lib.hid P7
      have HM7 := Lib.hid (M6.out.trans M7)
      clear P7 M7
      go_wp2
      refine bodyPost_end (v := .tuple #[]) (by simp [results, Tryz.results41]) rfl ?_
      exact ⟨rfl, HP7.out, HM7.out⟩
  ·
    go_simp
    refine hK.out _ _ (EH.alloc _) (fun hHeld => ?_)
    clear hK K hHeld
    (try simp only [List.getElem_toArray]); (try simp only [List.getElem_cons_succ]); (try simp only [List.getElem_cons_zero]); (try simp only [Act.put]); (try simp only [List.setIfInBounds_toArray]); (try simp only [List.set_cons_succ]); (try simp only [List.set_cons_zero])
    have HD1 := Lib.hid (HD1.out.ext ((Ext.refl _).alloc (.cells #[.bool false, .bool false] 80)))
    have B6 := Lib.hid (Blk.new w19 80 #[.bool false, .bool false])
    obtain ⟨n6, hn6⟩ : ∃ n6, w19.heap.size = n6 := ⟨_, rfl⟩
    have hn6W : w.heap.size ≤ n6 := by rw [← hn6]; exact EH.size
    have EH := EH.alloc (.cells #[.bool false, .bool false] 80)
    rw [hn6] at B6 ⊢
    clear hn6
    generalize w19.alloc _ = w20 at *
    have LB6 := B6.out.lt
    refine wpAnyH_ready (rs := [9]) (by kernel_rfl) (by simp) ?_
    refine (AllReadyH.cons rfl (fun K hK => ?_) AllReadyH.nil)
    go_simp
    go_at_call 23
    refine (dused_any d w20 HD1.out h1 h2 h3).mono ?_
    rintro e w21 ⟨rfl, E3⟩
    (try dsimp only)
    refine hK.out _ _ (EH.trans E3) (fun hHeld => ?_)
    clear hK K hHeld
    (try simp only [List.getElem_toArray]); (try simp only [List.getElem_cons_succ]); (try simp only [List.getElem_cons_zero]); (try simp only [Act.put]); (try simp only [List.setIfInBounds_toArray]); (try simp only [List.set_cons_succ]); (try simp only [List.set_cons_zero])
    have HD1 := Lib.hid (HD1.out.ext E3)
    have B6 := Lib.hid (B6.out.ext E3)
    have EH := EH.trans E3
    have LB6 := B6.out.lt
    clear E3
    refine wpAnyH_ready (rs := [10]) (by kernel_rfl) (by simp) ?_
    refine (AllReadyH.cons rfl (fun K hK => ?_) AllReadyH.nil)
    go_simp
    go_at_call 79
    refine (HMK.out w21).mono ?_
    rintro e w22 ⟨A9, c9, rfl, r9, -, E3⟩
    (try dsimp only)
    refine hK.out _ _ (EH.trans E3) (fun hHeld => ?_)
    clear hK K hHeld
    (try simp only [List.getElem_toArray]); (try simp only [List.getElem_cons_succ]); (try simp only [List.getElem_cons_zero]); (try simp only [Act.put]); (try simp only [List.setIfInBounds_toArray]); (try simp only [List.set_cons_succ]); (try simp only [List.set_cons_zero])
    have HR9 := Lib.hid r9
    clear r9
    have HD1 := Lib.hid (HD1.out.ext E3)
    have B6 := Lib.hid (B6.out.ext E3)
    have HR9 := Lib.hid (HR9.out)
    have EH := EH.trans E3
    have LB6 := B6.out.lt
    clear E3
    have hHeld : Ext w w22 := EH
    (refine wpAnyH_take (i := 11) (v := ?_) rfl (by kernel_rfl) (by kernel_rfl) (by kernel_rfl) (fun _ _ _ h => h) (Or.inl ⟨by rfl, ?_⟩) (by assumption) ?_; rotate_left; (focus (intro w' hSw; go_simp; try with_reducible rfl)); (try simp only [List.getElem_toArray]); (try simp only [List.getElem_cons_succ]); (try simp only [List.getElem_cons_zero]); (try simp only [Act.put]); (try simp only [List.setIfInBounds_toArray]); (try simp only [List.set_cons_succ]); (try simp only [List.set_cons_zero]))
    (refine wpAnyH_take (i := 12) (v := ?_) rfl (by kernel_rfl) (by kernel_rfl) (by kernel_rfl) (fun _ _ _ h => h) (Or.inl ⟨by rfl, ?_⟩) (by assumption) ?_; rotate_left; (focus (intro w' hSw; go_simp; try with_reducible rfl)); (try simp only [List.getElem_toArray]); (try simp only [List.getElem_cons_succ]); (try simp only [List.getElem_cons_zero]); (try simp only [Act.put]); (try simp only [List.setIfInBounds_toArray]); (try simp only [List.set_cons_succ]); (try simp only [List.set_cons_zero]))
    (refine wpAnyH_take (i := 13) (v := ?_) rfl (by kernel_rfl) (by kernel_rfl) (by kernel_rfl) (fun _ _ _ h => h) (Or.inl ⟨by rfl, ?_⟩) (by assumption) ?_; rotate_left; (focus (intro w' hSw; go_simp; try with_reducible rfl)); (try simp only [List.getElem_toArray]); (try simp only [List.getElem_cons_succ]); (try simp only [List.getElem_cons_zero]); (try simp only [Act.put]); (try simp only [List.setIfInBounds_toArray]); (try simp only [List.set_cons_succ]); (try simp only [List.set_cons_zero]))
    clear hHeld
    have hHeld : Ext w w22 := EH
    have hn6w : w.heap.size ≤ n6 := hn6W
    refine wpAnyH_ready (rs := [15]) (by kernel_rfl) (by simp) ?_
    refine AllReadyH.cons rfl (fun K hK => ?_) AllReadyH.nil
    rw [if_pos (by rfl)]
    refine wp_store_A 80 _ _ rfl n6 #[.bool d.st, .bool false] rfl rfl 80 _ B6.out (by kernel_rfl) rfl (by simp [Value.oneCell']) ?_
    intro w5 H5 E5
    have E5 := E5 w.heap.size w EH hn6w
    refine hK.out _ _ E5 (fun hHeld => ?_)
    clear hK K
    (try simp only [List.getElem_toArray]); (try simp only [List.getElem_cons_succ]); (try simp only [List.getElem_cons_zero]); (try simp only [Act.put]); (try simp only [List.setIfInBounds_toArray]); (try simp only [List.set_cons_succ]); (try simp only [List.set_cons_zero])
    (refine wpAnyH_take (i := 16) (v := ?_) rfl (by kernel_rfl) (by kernel_rfl) (by kernel_rfl) (fun _ _ _ h => h) (Or.inl ⟨by rfl, ?_⟩) (by assumption) ?_; rotate_left; (focus (intro w' hSw; go_simp; try with_reducible rfl)); (try simp only [List.getElem_toArray]); (try simp only [List.getElem_cons_succ]); (try simp only [List.getElem_cons_zero]); (try simp only [Act.put]); (try simp only [List.setIfInBounds_toArray]); (try simp only [List.set_cons_succ]); (try simp only [List.set_cons_zero]))
    refine wpAnyH_done (by kernel_rfl) ?_ _
    have hne6 : g ≠ n6 := by have := HS.out.2 g HS.out.1; omega
    have D5 := hD0.out.ext E5
    obtain ⟨x0, x1, -, -⟩ := H5.two
    have B5 := HD.out.ext E5
    have HB5 := Lib.hid B5
    have q4 := (TmC.of B5 hn).k4
    have q5 := (TmC.of B5 hn).k5
    rw [HHD.out] at q5
    have fq4 := B5.frozen 28
    have fq5 := B5.frozen 29
    have HR5 := Lib.hid (HR.out.ext E5)
    have EE := Lib.hid E5
    clear B5 E5 D5 hHeld H5 HD1
    have D6 : Dsc S g ((w5.setCell ⟨g, 28, none⟩ (.bool d.st)).setCell ⟨g, 29, none⟩ (.bool false)) d := by
      refine ⟨HOK.out, ⟨HS.out.1, fun j hj => ?_⟩, vl, vs, vr, vo, ?_, (HR5.out.set_ HS.out.1 _ _).set_ HS.out.1 _ _⟩
      · have := HS.out.2 j hj
        have := EE.out.size
        simp
        omega
      · have hB := blk_tmset (blk_tmset HB5.out hn 4 rfl (.bool d.st)) hn 5 rfl (.bool false)
        show Blk _ g _ (tmA d.t.arr [_, _, _, _, _, .bool d.hd, _, _, _, _])
        rw [HHD.out]
        exact hB
    have HD6 := Lib.hid D6
    have M6 := Lib.hid (((Mod.of_ext EE.out).set1 (g := g) (o := 28) (.bool d.st)).set1 (o := 29) (.bool false))
    clear D6 HB5 HR5
    go_wp2_with fail
    refine (dput_any d _ [] _ HD6.out (HR9.out.keep fun b off j u hu => by simp at hu) (fun x hx => by cases hx) (by simp)).mono ?_
    rintro e w7 ⟨rfl, P7, M7⟩
    rw [putD_nil HOK.out] at P7
    have HP7 := Lib.hid P7
    have HM7 := Lib.hid (M6.out.trans M7)
    clear P7 M7
    go_wp2
    refine bodyPost_end (v := .tuple #[]) (by simp [results, Tryz.results41]) rfl ?_
    exact ⟨rfl, HP7.out, HM7.out⟩
set_option maxHeartbeats 3000000 in
theorem dmarks_d {S : Nat → Prop} {g : Nat} (d : Ds) (u : FrameMode) (w : World) (h : Dsc S g w d) (hhd : d.hd = false) (hu : d.used < 768) (h1 : Ca.usedL d.ls ≤ 100000) (h2 : d.line.length ≤ 100000) (h3 : d.raw.length ≤ 100000) :
    CallsD Tryz.prog 41 #[.pointer (some ⟨g, 0, none⟩)] u w fun e u' w' => u' = u ∧ e = .returned (.tuple #[]) ∧ Dsc S g w' d ∧ Mod (fun j => j = g) w w' := by
  have hD0 := Lib.hid h
  obtain ⟨ok, hS, vl, vs, vr, vo, hD, hR⟩ := h
  have hn := Tm.size ok.t
  have hil : (Tryz.prog.info? 26).map (·.size) = some d.t.arr.toList.length := by rw [Array.length_toList, hn]; kernel_rfl
  have HS := Lib.hid hS
  have HR := Lib.hid hR
  have HD := Lib.hid hD
  have HOK := Lib.hid ok
  have KC := Lib.hid (TmC.of hD hn)
  clear hS hR hD ok
  have hmk : Fl.markL d.t d.hd d.used 256 768 = (false, []) := by
    unfold Fl.markL
    rw [hhd]
    rw [if_neg (by simp), if_neg (by intro h; omega)]
  have HMK := Lib.hid (fun w' => Fl.mark_any d.t d.st d.hd d.used 256 768 w' HOK.out.t)
  rw [hmk] at HMK
  unfold Fl.MarkPost at HMK
  dsimp only [List.length_nil, List.map_nil] at HMK
  have k4 := KC.out.k4
  have k5 := KC.out.k5
  rw [hhd] at HMK k5
  have HHD := Lib.hid hhd
  clear hmk hu hhd
  go_enter_d Tryz.func41, Tryz.ntmps41
  go_upto_region 0 with fail
  refine wp_region_held_drew (S := fun w' => Ext w w') (by kernel_rfl) (Ext.drew (Ext.refl _)) (fun hHeld => ?_)
  (refine wpAnyH_take (i := 0) (v := ?_) rfl (by kernel_rfl) (by kernel_rfl) (by kernel_rfl) (fun _ _ _ h => h) (Or.inl ⟨by rfl, ?_⟩) (by assumption) ?_; rotate_left; (focus (intro w' hSw; go_simp; try with_reducible rfl)); (try simp only [List.getElem_toArray]); (try simp only [List.getElem_cons_succ]); (try simp only [List.getElem_cons_zero]); (try simp only [Act.put]); (try simp only [List.setIfInBounds_toArray]); (try simp only [List.set_cons_succ]); (try simp only [List.set_cons_zero]))
  (refine wpAnyH_take (i := 1) (v := ?_) rfl (by kernel_rfl) (by kernel_rfl) (by kernel_rfl) (fun _ _ _ h => h) (Or.inl ⟨by rfl, ?_⟩) (by assumption) ?_; rotate_left; (focus (intro w' hSw; go_simp; try with_reducible rfl)); (try simp only [List.getElem_toArray]); (try simp only [List.getElem_cons_succ]); (try simp only [List.getElem_cons_zero]); (try simp only [Act.put]); (try simp only [List.setIfInBounds_toArray]); (try simp only [List.set_cons_succ]); (try simp only [List.set_cons_zero]))
  (refine wpAnyH_take (i := 2) (v := ?_) rfl (by kernel_rfl) (by kernel_rfl) (by kernel_rfl) (fun _ _ _ h => h) (Or.inl ⟨by rfl, ?_⟩) (by assumption) ?_; rotate_left; (focus (intro w' hSw; go_simp; try with_reducible rfl)); (try simp only [List.getElem_toArray]); (try simp only [List.getElem_cons_succ]); (try simp only [List.getElem_cons_zero]); (try simp only [Act.put]); (try simp only [List.setIfInBounds_toArray]); (try simp only [List.set_cons_succ]); (try simp only [List.set_cons_zero]))
  (refine wpAnyH_take (i := 3) (v := .agg (d.t.arr).toList.toArray) rfl (by kernel_rfl) (by kernel_rfl) (by kernel_rfl) (fun _ _ _ h => h) (yieldsIf_load_mid (by rfl) 26 _ rfl _ _ rfl (d.t.arr).toList _ (fun w' hSw => tmA_mid (HD.out.ext hSw)) Tryz.underlying26 rfl hil) (by assumption) ?_; simp only [Array.toArray_toList]; (try simp only [Act.put]); (try simp only [List.getElem_toArray]); (try simp only [List.getElem_cons_succ]); (try simp only [List.getElem_cons_zero]); (try simp only [List.setIfInBounds_toArray]); (try simp only [List.set_cons_succ]); (try simp only [List.set_cons_zero]))
  (refine wpAnyH_take (i := 4) (v := ?_) rfl (by kernel_rfl) (by kernel_rfl) (by kernel_rfl) (fun _ _ _ h => h) (Or.inl ⟨by rfl, ?_⟩) (by assumption) ?_; rotate_left; (focus (intro w' hSw; go_simp; try with_reducible rfl)); (try simp only [List.getElem_toArray]); (try simp only [List.getElem_cons_succ]); (try simp only [List.getElem_cons_zero]); (try simp only [Act.put]); (try simp only [List.setIfInBounds_toArray]); (try simp only [List.set_cons_succ]); (try simp only [List.set_cons_zero]))
  (refine wpAnyH_take (i := 5) (v := ?_) rfl (by kernel_rfl) (by kernel_rfl) (by kernel_rfl) (fun _ _ _ h => h) (Or.inl ⟨by rfl, ?_⟩) (by assumption) ?_; rotate_left; (focus (intro w' hSw; go_simp; try with_reducible rfl)); (try simp only [List.getElem_toArray]); (try simp only [List.getElem_cons_succ]); (try simp only [List.getElem_cons_zero]); (try simp only [Act.put]); (try simp only [List.setIfInBounds_toArray]); (try simp only [List.set_cons_succ]); (try simp only [List.set_cons_zero]))
  (refine wpAnyH_take (i := 6) (v := ?_) rfl (by kernel_rfl) (by kernel_rfl) (by kernel_rfl) (fun _ _ _ h => h) (Or.inl ⟨by rfl, ?_⟩) (by assumption) ?_; rotate_left; (focus (intro w' hSw; go_simp; try with_reducible rfl)); (try simp only [List.getElem_toArray]); (try simp only [List.getElem_cons_succ]); (try simp only [List.getElem_cons_zero]); (try simp only [Act.put]); (try simp only [List.setIfInBounds_toArray]); (try simp only [List.set_cons_succ]); (try simp only [List.set_cons_zero]))
  (refine wpAnyH_take (i := 7) (v := ?_) rfl (by kernel_rfl) (by kernel_rfl) (by kernel_rfl) (fun _ _ _ h => h) (Or.inl ⟨by rfl, ?_⟩) (by assumption) ?_; rotate_left; (focus (intro w' hSw; have kc4 := cell_ext hSw k4; have kc5 := cell_ext hSw k5; go_simp; try with_reducible rfl)); (try simp only [List.getElem_toArray]); (try simp only [List.getElem_cons_succ]); (try simp only [List.getElem_cons_zero]); (try simp only [Act.put]); (try simp only [List.setIfInBounds_toArray]); (try simp only [List.set_cons_succ]); (try simp only [List.set_cons_zero]))
  (refine wpAnyH_take (i := 8) (v := ?_) rfl (by kernel_rfl) (by kernel_rfl) (by kernel_rfl) (fun _ _ _ h => h) (Or.inl ⟨by rfl, ?_⟩) (by assumption) ?_; rotate_left; (focus (intro w' hSw; go_simp; try with_reducible rfl)); (try simp only [List.getElem_toArray]); (try simp only [List.getElem_cons_succ]); (try simp only [List.getElem_cons_zero]); (try simp only [Act.put]); (try simp only [List.setIfInBounds_toArray]); (try simp only [List.set_cons_succ]); (try simp only [List.set_cons_zero]))
  have EH : Ext w w.drew := Ext.drew (Ext.refl _)
  have HD1 := Lib.hid (hD0.out.ext EH)
  clear hHeld
  generalize w.drew = w19 at *
  refine wpAnyH_ready (rs := [9, 14]) (by kernel_rfl) (by simp) ?_
  refine (AllReadyH.cons rfl (fun K hK => ?_) (AllReadyH.cons rfl (fun K hK => ?_) AllReadyH.nil))
  ·
    go_simp
    go_at_call 23
    refine (dused_any d w19 HD1.out h1 h2 h3).mono ?_
    rintro e w20 ⟨rfl, E3⟩
    (try dsimp only)
    refine hK.out _ _ (EH.trans E3) (fun hHeld => ?_)
    clear hK K hHeld
    (try simp only [List.getElem_toArray]); (try simp only [List.getElem_cons_succ]); (try simp only [List.getElem_cons_zero]); (try simp only [Act.put]); (try simp only [List.setIfInBounds_toArray]); (try simp only [List.set_cons_succ]); (try simp only [List.set_cons_zero])
    have HD1 := Lib.hid (HD1.out.ext E3)
    have EH := EH.trans E3
    clear E3
    refine wpAnyH_ready (rs := [10, 14]) (by kernel_rfl) (by simp) ?_
    refine (AllReadyH.cons rfl (fun K hK => ?_) (AllReadyH.cons rfl (fun K hK => ?_) AllReadyH.nil))
    ·
      go_simp
      go_at_call 79
      refine (HMK.out w20).mono ?_
      rintro e w21 ⟨A9, c9, rfl, r9, -, E3⟩
      (try dsimp only)
      refine hK.out _ _ (EH.trans E3) (fun hHeld => ?_)
      clear hK K hHeld
      (try simp only [List.getElem_toArray]); (try simp only [List.getElem_cons_succ]); (try simp only [List.getElem_cons_zero]); (try simp only [Act.put]); (try simp only [List.setIfInBounds_toArray]); (try simp only [List.set_cons_succ]); (try simp only [List.set_cons_zero])
      have HR9 := Lib.hid r9
      clear r9
      have HD1 := Lib.hid (HD1.out.ext E3)
      have HR9 := Lib.hid (HR9.out)
      have EH := EH.trans E3
      clear E3
      have hHeld : Ext w w21 := EH
      (refine wpAnyH_take (i := 11) (v := ?_) rfl (by kernel_rfl) (by kernel_rfl) (by kernel_rfl) (fun _ _ _ h => h) (Or.inl ⟨by rfl, ?_⟩) (by assumption) ?_; rotate_left; (focus (intro w' hSw; go_simp; try with_reducible rfl)); (try simp only [List.getElem_toArray]); (try simp only [List.getElem_cons_succ]); (try simp only [List.getElem_cons_zero]); (try simp only [Act.put]); (try simp only [List.setIfInBounds_toArray]); (try simp only [List.set_cons_succ]); (try simp only [List.set_cons_zero]))
      (refine wpAnyH_take (i := 12) (v := ?_) rfl (by kernel_rfl) (by kernel_rfl) (by kernel_rfl) (fun _ _ _ h => h) (Or.inl ⟨by rfl, ?_⟩) (by assumption) ?_; rotate_left; (focus (intro w' hSw; go_simp; try with_reducible rfl)); (try simp only [List.getElem_toArray]); (try simp only [List.getElem_cons_succ]); (try simp only [List.getElem_cons_zero]); (try simp only [Act.put]); (try simp only [List.setIfInBounds_toArray]); (try simp only [List.set_cons_succ]); (try simp only [List.set_cons_zero]))
      (refine wpAnyH_take (i := 13) (v := ?_) rfl (by kernel_rfl) (by kernel_rfl) (by kernel_rfl) (fun _ _ _ h => h) (Or.inl ⟨by rfl, ?_⟩) (by assumption) ?_; rotate_left; (focus (intro w' hSw; go_simp; try with_reducible rfl)); (try simp only [List.getElem_toArray]); (try simp only [List.getElem_cons_succ]); (try simp only [List.getElem_cons_zero]); (try simp only [Act.put]); (try simp only [List.setIfInBounds_toArray]); (try simp only [List.set_cons_succ]); (try simp only [List.set_cons_zero]))
      clear hHeld
      refine wpAnyH_ready (rs := [14]) (by kernel_rfl) (by simp) ?_
      refine (AllReadyH.cons rfl (fun K hK => ?_) AllReadyH.nil)
      go_simp
      refine hK.out _ _ (EH.alloc _) (fun hHeld => ?_)
      clear hK K hHeld
      (try simp only [List.getElem_toArray]); (try simp only [List.getElem_cons_succ]); (try simp only [List.getElem_cons_zero]); (try simp only [Act.put]); (try simp only [List.setIfInBounds_toArray]); (try simp only [List.set_cons_succ]); (try simp only [List.set_cons_zero])
      have HD1 := Lib.hid (HD1.out.ext ((Ext.refl _).alloc (.cells #[.bool false, .bool false] 80)))
      have HR9 := Lib.hid (HR9.out.ext ((Ext.refl _).alloc (.cells #[.bool false, .bool false] 80)))
      have B6 := Lib.hid (Blk.new w21 80 #[.bool false, .bool false])
      obtain ⟨n6, hn6⟩ : ∃ n6, w21.heap.size = n6 := ⟨_, rfl⟩
      have hn6W : w.heap.size ≤ n6 := by rw [← hn6]; exact EH.size
      have EH := EH.alloc (.cells #[.bool false, .bool false] 80)
      rw [hn6] at B6 ⊢
      clear hn6
      generalize w21.alloc _ = w22 at *
      have LB6 := B6.out.lt
      have hHeld : Ext w w22 := EH
      have hn6w : w.heap.size ≤ n6 := hn6W
      refine wpAnyH_ready (rs := [15]) (by kernel_rfl) (by simp) ?_
      refine AllReadyH.cons rfl (fun K hK => ?_) AllReadyH.nil
      rw [if_pos (by rfl)]
      refine wp_store_A 80 _ _ rfl n6 #[.bool d.st, .bool false] rfl rfl 80 _ B6.out (by kernel_rfl) rfl (by simp [Value.oneCell']) ?_
      intro w5 H5 E5
      have E5 := E5 w.heap.size w EH hn6w
      refine hK.out _ _ E5 (fun hHeld => ?_)
      clear hK K
      (try simp only [List.getElem_toArray]); (try simp only [List.getElem_cons_succ]); (try simp only [List.getElem_cons_zero]); (try simp only [Act.put]); (try simp only [List.setIfInBounds_toArray]); (try simp only [List.set_cons_succ]); (try simp only [List.set_cons_zero])
      (refine wpAnyH_take (i := 16) (v := ?_) rfl (by kernel_rfl) (by kernel_rfl) (by kernel_rfl) (fun _ _ _ h => h) (Or.inl ⟨by rfl, ?_⟩) (by assumption) ?_; rotate_left; (focus (intro w' hSw; go_simp; try with_reducible rfl)); (try simp only [List.getElem_toArray]); (try simp only [List.getElem_cons_succ]); (try simp only [List.getElem_cons_zero]); (try simp only [Act.put]); (try simp only [List.setIfInBounds_toArray]); (try simp only [List.set_cons_succ]); (try simp only [List.set_cons_zero]))
      refine wpAnyH_done (by kernel_rfl) ?_ _
      have hne6 : g ≠ n6 := by have := HS.out.2 g HS.out.1; omega
      have D5 := hD0.out.ext E5
      obtain ⟨x0, x1, -, -⟩ := H5.two
      have B5 := HD.out.ext E5
      have HB5 := Lib.hid B5
      have q4 := (TmC.of B5 hn).k4
      have q5 := (TmC.of B5 hn).k5
      rw [HHD.out] at q5
      have fq4 := B5.frozen 28
      have fq5 := B5.frozen 29
      have HR5 := Lib.hid (HR.out.ext E5)
      have EE := Lib.hid E5
      clear B5 E5 D5 hHeld H5 HD1
      have D6 : Dsc S g ((w5.setCell ⟨g, 28, none⟩ (.bool d.st)).setCell ⟨g, 29, none⟩ (.bool false)) d := by
        refine ⟨HOK.out, ⟨HS.out.1, fun j hj => ?_⟩, vl, vs, vr, vo, ?_, (HR5.out.set_ HS.out.1 _ _).set_ HS.out.1 _ _⟩
        · have := HS.out.2 j hj
          have := EE.out.size
          simp
          omega
        · have hB := blk_tmset (blk_tmset HB5.out hn 4 rfl (.bool d.st)) hn 5 rfl (.bool false)
          show Blk _ g _ (tmA d.t.arr [_, _, _, _, _, .bool d.hd, _, _, _, _])
          rw [HHD.out]
          exact hB
      have HD6 := Lib.hid D6
      have M6 := Lib.hid (((Mod.of_ext EE.out).set1 (g := g) (o := 28) (.bool d.st)).set1 (o := 29) (.bool false))
      clear D6 HB5 HR5
      go_wp2_with fail
      refine (dput_any d _ [] _ HD6.out (HR9.out.keep fun b off j u hu => by simp at hu) (fun x hx => by cases hx) (by simp)).mono ?_
      rintro e w7 ⟨rfl, P7, M7⟩
      rw [putD_nil HOK.out] at P7
      have HP7 := Lib.hid P7
      have HM7 := Lib.hid (M6.out.trans M7)
      clear P7 M7
      go_wp2
      refine bodyPost_end (v := .tuple #[]) (by simp [results, Tryz.results41]) rfl ?_
      exact ⟨rfl, HP7.out, HM7.out⟩
    ·
      go_simp
      refine hK.out _ _ (EH.alloc _) (fun hHeld => ?_)
      clear hK K hHeld
      (try simp only [List.getElem_toArray]); (try simp only [List.getElem_cons_succ]); (try simp only [List.getElem_cons_zero]); (try simp only [Act.put]); (try simp only [List.setIfInBounds_toArray]); (try simp only [List.set_cons_succ]); (try simp only [List.set_cons_zero])
      have HD1 := Lib.hid (HD1.out.ext ((Ext.refl _).alloc (.cells #[.bool false, .bool false] 80)))
      have B6 := Lib.hid (Blk.new w20 80 #[.bool false, .bool false])
      obtain ⟨n6, hn6⟩ : ∃ n6, w20.heap.size = n6 := ⟨_, rfl⟩
      have hn6W : w.heap.size ≤ n6 := by rw [← hn6]; exact EH.size
      have EH := EH.alloc (.cells #[.bool false, .bool false] 80)
      rw [hn6] at B6 ⊢
      clear hn6
      generalize w20.alloc _ = w21 at *
      have LB6 := B6.out.lt
      refine wpAnyH_ready (rs := [10]) (by kernel_rfl) (by simp) ?_
      refine (AllReadyH.cons rfl (fun K hK => ?_) AllReadyH.nil)
      go_simp
      go_at_call 79
      refine (HMK.out w21).mono ?_
      rintro e w22 ⟨A9, c9, rfl, r9, -, E3⟩
      (try dsimp only)
      refine hK.out _ _ (EH.trans E3) (fun hHeld => ?_)
      clear hK K hHeld
      (try simp only [List.getElem_toArray]); (try simp only [List.getElem_cons_succ]); (try simp only [List.getElem_cons_zero]); (try simp only [Act.put]); (try simp only [List.setIfInBounds_toArray]); (try simp only [List.set_cons_succ]); (try simp only [List.set_cons_zero])
      have HR9 := Lib.hid r9
      clear r9
      have HD1 := Lib.hid (HD1.out.ext E3)
      have B6 := Lib.hid (B6.out.ext E3)
      have HR9 := Lib.hid (HR9.out)
      have EH := EH.trans E3
      have LB6 := B6.out.lt
      clear E3
      have hHeld : Ext w w22 := EH
      (refine wpAnyH_take (i := 11) (v := ?_) rfl (by kernel_rfl) (by kernel_rfl) (by kernel_rfl) (fun _ _ _ h => h) (Or.inl ⟨by rfl, ?_⟩) (by assumption) ?_; rotate_left; (focus (intro w' hSw; go_simp; try with_reducible rfl)); (try simp only [List.getElem_toArray]); (try simp only [List.getElem_cons_succ]); (try simp only [List.getElem_cons_zero]); (try simp only [Act.put]); (try simp only [List.setIfInBounds_toArray]); (try simp only [List.set_cons_succ]); (try simp only [List.set_cons_zero]))
      (refine wpAnyH_take (i := 12) (v := ?_) rfl (by kernel_rfl) (by kernel_rfl) (by kernel_rfl) (fun _ _ _ h => h) (Or.inl ⟨by rfl, ?_⟩) (by assumption) ?_; rotate_left; (focus (intro w' hSw; go_simp; try with_reducible rfl)); (try simp only [List.getElem_toArray]); (try simp only [List.getElem_cons_succ]); (try simp only [List.getElem_cons_zero]); (try simp only [Act.put]); (try simp only [List.setIfInBounds_toArray]); (try simp only [List.set_cons_succ]); (try simp only [List.set_cons_zero]))
      (refine wpAnyH_take (i := 13) (v := ?_) rfl (by kernel_rfl) (by kernel_rfl) (by kernel_rfl) (fun _ _ _ h => h) (Or.inl ⟨by rfl, ?_⟩) (by assumption) ?_; rotate_left; (focus (intro w' hSw; go_simp; try with_reducible rfl)); (try simp only [List.getElem_toArray]); (try simp only [List.getElem_cons_succ]); (try simp only [List.getElem_cons_zero]); (try simp only [Act.put]); (try simp only [List.setIfInBounds_toArray]); (try simp only [List.set_cons_succ]); (try simp only [List.set_cons_zero]))
      clear hHeld
      have hHeld : Ext w w22 := EH
      have hn6w : w.heap.size ≤ n6 := hn6W
      refine wpAnyH_ready (rs := [15]) (by kernel_rfl) (by simp) ?_
      refine AllReadyH.cons rfl (fun K hK => ?_) AllReadyH.nil
      rw [if_pos (by rfl)]
      refine wp_store_A 80 _ _ rfl n6 #[.bool d.st, .bool false] rfl rfl 80 _ B6.out (by kernel_rfl) rfl (by simp [Value.oneCell']) ?_
      intro w5 H5 E5
      have E5 := E5 w.heap.size w EH hn6w
      refine hK.out _ _ E5 (fun hHeld => ?_)
      clear hK K
      (try simp only [List.getElem_toArray]); (try simp only [List.getElem_cons_succ]); (try simp only [List.getElem_cons_zero]); (try simp only [Act.put]); (try simp only [List.setIfInBounds_toArray]); (try simp only [List.set_cons_succ]); (try simp only [List.set_cons_zero])
      (refine wpAnyH_take (i := 16) (v := ?_) rfl (by kernel_rfl) (by kernel_rfl) (by kernel_rfl) (fun _ _ _ h => h) (Or.inl ⟨by rfl, ?_⟩) (by assumption) ?_; rotate_left; (focus (intro w' hSw; go_simp; try with_reducible rfl)); (try simp only [List.getElem_toArray]); (try simp only [List.getElem_cons_succ]); (try simp only [List.getElem_cons_zero]); (try simp only [Act.put]); (try simp only [List.setIfInBounds_toArray]); (try simp only [List.set_cons_succ]); (try simp only [List.set_cons_zero]))
      refine wpAnyH_done (by kernel_rfl) ?_ _
      have hne6 : g ≠ n6 := by have := HS.out.2 g HS.out.1; omega
      have D5 := hD0.out.ext E5
      obtain ⟨x0, x1, -, -⟩ := H5.two
      have B5 := HD.out.ext E5
      have HB5 := Lib.hid B5
      have q4 := (TmC.of B5 hn).k4
      have q5 := (TmC.of B5 hn).k5
      rw [HHD.out] at q5
      have fq4 := B5.frozen 28
      have fq5 := B5.frozen 29
      have HR5 := Lib.hid (HR.out.ext E5)
      have EE := Lib.hid E5
      clear B5 E5 D5 hHeld H5 HD1
      have D6 : Dsc S g ((w5.setCell ⟨g, 28, none⟩ (.bool d.st)).setCell ⟨g, 29, none⟩ (.bool false)) d := by
        refine ⟨HOK.out, ⟨HS.out.1, fun j hj => ?_⟩, vl, vs, vr, vo, ?_, (HR5.out.set_ HS.out.1 _ _).set_ HS.out.1 _ _⟩
        · have := HS.out.2 j hj
          have := EE.out.size
          simp
          omega
        · have hB := blk_tmset (blk_tmset HB5.out hn 4 rfl (.bool d.st)) hn 5 rfl (.bool false)
          show Blk _ g _ (tmA d.t.arr [_, _, _, _, _, .bool d.hd, _, _, _, _])
          rw [HHD.out]
          exact hB
      have HD6 := Lib.hid D6
      have M6 := Lib.hid (((Mod.of_ext EE.out).set1 (g := g) (o := 28) (.bool d.st)).set1 (o := 29) (.bool false))
      clear D6 HB5 HR5
      go_wp2_with fail
      refine (dput_any d _ [] _ HD6.out (HR9.out.keep fun b off j u hu => by simp at hu) (fun x hx => by cases hx) (by simp)).mono ?_
      rintro e w7 ⟨rfl, P7, M7⟩
      rw [putD_nil HOK.out] at P7
      have HP7 := Lib.hid P7
      have HM7 := Lib.hid (M6.out.trans M7)
      clear P7 M7
      go_wp2
      refine bodyPost_end (v := .tuple #[]) (by simp [results, Tryz.results41]) rfl ?_
      exact ⟨rfl, HP7.out, HM7.out⟩
  ·
    go_simp
    refine hK.out _ _ (EH.alloc _) (fun hHeld => ?_)
    clear hK K hHeld
    (try simp only [List.getElem_toArray]); (try simp only [List.getElem_cons_succ]); (try simp only [List.getElem_cons_zero]); (try simp only [Act.put]); (try simp only [List.setIfInBounds_toArray]); (try simp only [List.set_cons_succ]); (try simp only [List.set_cons_zero])
    have HD1 := Lib.hid (HD1.out.ext ((Ext.refl _).alloc (.cells #[.bool false, .bool false] 80)))
    have B6 := Lib.hid (Blk.new w19 80 #[.bool false, .bool false])
    obtain ⟨n6, hn6⟩ : ∃ n6, w19.heap.size = n6 := ⟨_, rfl⟩
    have hn6W : w.heap.size ≤ n6 := by rw [← hn6]; exact EH.size
    have EH := EH.alloc (.cells #[.bool false, .bool false] 80)
    rw [hn6] at B6 ⊢
    clear hn6
    generalize w19.alloc _ = w20 at *
    have LB6 := B6.out.lt
    refine wpAnyH_ready (rs := [9]) (by kernel_rfl) (by simp) ?_
    refine (AllReadyH.cons rfl (fun K hK => ?_) AllReadyH.nil)
    go_simp
    go_at_call 23
    refine (dused_any d w20 HD1.out h1 h2 h3).mono ?_
    rintro e w21 ⟨rfl, E3⟩
    (try dsimp only)
    refine hK.out _ _ (EH.trans E3) (fun hHeld => ?_)
    clear hK K hHeld
    (try simp only [List.getElem_toArray]); (try simp only [List.getElem_cons_succ]); (try simp only [List.getElem_cons_zero]); (try simp only [Act.put]); (try simp only [List.setIfInBounds_toArray]); (try simp only [List.set_cons_succ]); (try simp only [List.set_cons_zero])
    have HD1 := Lib.hid (HD1.out.ext E3)
    have B6 := Lib.hid (B6.out.ext E3)
    have EH := EH.trans E3
    have LB6 := B6.out.lt
    clear E3
    refine wpAnyH_ready (rs := [10]) (by kernel_rfl) (by simp) ?_
    refine (AllReadyH.cons rfl (fun K hK => ?_) AllReadyH.nil)
    go_simp
    go_at_call 79
    refine (HMK.out w21).mono ?_
    rintro e w22 ⟨A9, c9, rfl, r9, -, E3⟩
    (try dsimp only)
    refine hK.out _ _ (EH.trans E3) (fun hHeld => ?_)
    clear hK K hHeld
    (try simp only [List.getElem_toArray]); (try simp only [List.getElem_cons_succ]); (try simp only [List.getElem_cons_zero]); (try simp only [Act.put]); (try simp only [List.setIfInBounds_toArray]); (try simp only [List.set_cons_succ]); (try simp only [List.set_cons_zero])
    have HR9 := Lib.hid r9
    clear r9
    have HD1 := Lib.hid (HD1.out.ext E3)
    have B6 := Lib.hid (B6.out.ext E3)
    have HR9 := Lib.hid (HR9.out)
    have EH := EH.trans E3
    have LB6 := B6.out.lt
    clear E3
    have hHeld : Ext w w22 := EH
    (refine wpAnyH_take (i := 11) (v := ?_) rfl (by kernel_rfl) (by kernel_rfl) (by kernel_rfl) (fun _ _ _ h => h) (Or.inl ⟨by rfl, ?_⟩) (by assumption) ?_; rotate_left; (focus (intro w' hSw; go_simp; try with_reducible rfl)); (try simp only [List.getElem_toArray]); (try simp only [List.getElem_cons_succ]); (try simp only [List.getElem_cons_zero]); (try simp only [Act.put]); (try simp only [List.setIfInBounds_toArray]); (try simp only [List.set_cons_succ]); (try simp only [List.set_cons_zero]))
    (refine wpAnyH_take (i := 12) (v := ?_) rfl (by kernel_rfl) (by kernel_rfl) (by kernel_rfl) (fun _ _ _ h => h) (Or.inl ⟨by rfl, ?_⟩) (by assumption) ?_; rotate_left; (focus (intro w' hSw; go_simp; try with_reducible rfl)); (try simp only [List.getElem_toArray]); (try simp only [List.getElem_cons_succ]); (try simp only [List.getElem_cons_zero]); (try simp only [Act.put]); (try simp only [List.setIfInBounds_toArray]); (try simp only [List.set_cons_succ]); (try simp only [List.set_cons_zero]))
    (refine wpAnyH_take (i := 13) (v := ?_) rfl (by kernel_rfl) (by kernel_rfl) (by kernel_rfl) (fun _ _ _ h => h) (Or.inl ⟨by rfl, ?_⟩) (by assumption) ?_; rotate_left; (focus (intro w' hSw; go_simp; try with_reducible rfl)); (try simp only [List.getElem_toArray]); (try simp only [List.getElem_cons_succ]); (try simp only [List.getElem_cons_zero]); (try simp only [Act.put]); (try simp only [List.setIfInBounds_toArray]); (try simp only [List.set_cons_succ]); (try simp only [List.set_cons_zero]))
    clear hHeld
    have hHeld : Ext w w22 := EH
    have hn6w : w.heap.size ≤ n6 := hn6W
    refine wpAnyH_ready (rs := [15]) (by kernel_rfl) (by simp) ?_
    refine AllReadyH.cons rfl (fun K hK => ?_) AllReadyH.nil
    rw [if_pos (by rfl)]
    refine wp_store_A 80 _ _ rfl n6 #[.bool d.st, .bool false] rfl rfl 80 _ B6.out (by kernel_rfl) rfl (by simp [Value.oneCell']) ?_
    intro w5 H5 E5
    have E5 := E5 w.heap.size w EH hn6w
    refine hK.out _ _ E5 (fun hHeld => ?_)
    clear hK K
    (try simp only [List.getElem_toArray]); (try simp only [List.getElem_cons_succ]); (try simp only [List.getElem_cons_zero]); (try simp only [Act.put]); (try simp only [List.setIfInBounds_toArray]); (try simp only [List.set_cons_succ]); (try simp only [List.set_cons_zero])
    (refine wpAnyH_take (i := 16) (v := ?_) rfl (by kernel_rfl) (by kernel_rfl) (by kernel_rfl) (fun _ _ _ h => h) (Or.inl ⟨by rfl, ?_⟩) (by assumption) ?_; rotate_left; (focus (intro w' hSw; go_simp; try with_reducible rfl)); (try simp only [List.getElem_toArray]); (try simp only [List.getElem_cons_succ]); (try simp only [List.getElem_cons_zero]); (try simp only [Act.put]); (try simp only [List.setIfInBounds_toArray]); (try simp only [List.set_cons_succ]); (try simp only [List.set_cons_zero]))
    refine wpAnyH_done (by kernel_rfl) ?_ _
    have hne6 : g ≠ n6 := by have := HS.out.2 g HS.out.1; omega
    have D5 := hD0.out.ext E5
    obtain ⟨x0, x1, -, -⟩ := H5.two
    have B5 := HD.out.ext E5
    have HB5 := Lib.hid B5
    have q4 := (TmC.of B5 hn).k4
    have q5 := (TmC.of B5 hn).k5
    rw [HHD.out] at q5
    have fq4 := B5.frozen 28
    have fq5 := B5.frozen 29
    have HR5 := Lib.hid (HR.out.ext E5)
    have EE := Lib.hid E5
    clear B5 E5 D5 hHeld H5 HD1
    have D6 : Dsc S g ((w5.setCell ⟨g, 28, none⟩ (.bool d.st)).setCell ⟨g, 29, none⟩ (.bool false)) d := by
      refine ⟨HOK.out, ⟨HS.out.1, fun j hj => ?_⟩, vl, vs, vr, vo, ?_, (HR5.out.set_ HS.out.1 _ _).set_ HS.out.1 _ _⟩
      · have := HS.out.2 j hj
        have := EE.out.size
        simp
        omega
      · have hB := blk_tmset (blk_tmset HB5.out hn 4 rfl (.bool d.st)) hn 5 rfl (.bool false)
        show Blk _ g _ (tmA d.t.arr [_, _, _, _, _, .bool d.hd, _, _, _, _])
        rw [HHD.out]
        exact hB
    have HD6 := Lib.hid D6
    have M6 := Lib.hid (((Mod.of_ext EE.out).set1 (g := g) (o := 28) (.bool d.st)).set1 (o := 29) (.bool false))
    clear D6 HB5 HR5
    go_wp2_with fail
    refine (dput_any d _ [] _ HD6.out (HR9.out.keep fun b off j u hu => by simp at hu) (fun x hx => by cases hx) (by simp)).mono ?_
    rintro e w7 ⟨rfl, P7, M7⟩
    rw [putD_nil HOK.out] at P7
    have HP7 := Lib.hid P7
    have HM7 := Lib.hid (M6.out.trans M7)
    clear P7 M7
    go_wp2
    refine bodyPost_end (v := .tuple #[]) (by simp [results, Tryz.results41]) rfl ?_
    exact ⟨rfl, HP7.out, HM7.out⟩
end Go.Proofs.YtfnicinnjkbedaaGreatDoor
