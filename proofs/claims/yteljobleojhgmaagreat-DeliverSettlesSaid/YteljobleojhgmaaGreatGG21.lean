/- Written by chain.py of +S21 H22[goodG,GroupPost,group_any]. No condition. -/
import Derived.Test.YteljobleojhgmaaGreatS21
namespace Go.Proofs.YteljobleojhgmaaGreat
open Go.RowKit Go.Kb Go.Kb.Bits

/-- a call that is done -/
def goodG (l : List Pr) (nx pid target group : Int) : Prop :=
  askL l nx [pid, target] = 0 ∧ ∃ p x, getL l nx pid = (p, true) ∧ getL l nx target = (x, true) ∧ (target = pid ∨ x.parent = pid) ∧ x.session = p.session ∧ x.session ≠ target ∧ group = target
def GroupPost (l : List Pr) (nx pid target group : Int) (Ad : Option Addr) (c : Nat) (w : World) (e : Ending) (w' : World) : Prop :=
  Ext w w' ∧ ((∃ x : Int, (x == 0) = false ∧ e = .returned (.tuple #[tv Ad l.length c nx, .int .i64 x]) ∧ ¬ goodG l nx pid target group) ∨
   (rightL l nx = true ∧ ∃ x, x ∈ l ∧ x.pid = target ∧ liveL l nx target = true ∧ (group = target ∨ ∃ m ∈ l, liveP m = true ∧ m.group = group ∧ m.session = x.session) ∧ ∃ A' c', e = .returned (.tuple #[tv A' l.length c' nx, .int .i64 0]) ∧ OwnS Rp 42 w.heap.size (fun _ => False) w' (.slice A' l.length c') (changeL (groupP group) target l)))
set_option maxRecDepth 100000 in
set_option maxHeartbeats 600000 in
theorem group_any {A : Nat → Prop} (Ad : Option Addr) (c : Nat) (l : List Pr) (nx pid target group : Int) (w : World) (h : RdY Rp A w (.slice Ad l.length c) l) :
    Calls Tryz.prog 16 #[tv Ad l.length c nx, .int .i64 pid, .int .i64 target, .int .i64 group] w (GroupPost l nx pid target group Ad c w) := by
  have H := Lib.hid (rdy_pr (B := fun _ => False) h)
  have hoks := Lib.hid (RdY.oks h)
  obtain ⟨W, hW⟩ : ∃ W, W = ((w.alloc (.cells #[.slice Ad l.length c, .int .i64 nx] 29)).alloc (.cells #[.int .i64 group] 3)).alloc (.cells #[.slice none 0 0, .int .i64 0] 29) := ⟨_, rfl⟩
  have hres := Lib.hid (show Blk W (w.heap.size + 1 + 1) 29 #[.slice none 0 0, .int .i64 0] by rw [hW]; exact Blk.at_ _ _ (by simp))
  have hst := Lib.hid (show Blk W (w.heap.size + 1) 3 #[.int .i64 group] by rw [hW]; exact (Blk.at_ _ _ (by simp)).alloc _)
  have hbox := Lib.hid (show Blk W w.heap.size 29 #[.slice Ad l.length c, .int .i64 nx] by rw [hW]; exact ((Blk.new w _ _).alloc _).alloc _)
  have E0 : Ext w W := by rw [hW]; exact (by repeat (first | with_reducible exact Ext.refl _ | refine Ext.drewN ?_ _ | refine Ext.drew ?_ | refine Ext.alloc ?_ _ | assumption | (refine Below.trans ?_ (by assumption)) | (refine Ext.trans ?_ (by assumption)) | (refine Below.trans ?_ (Below.mono (by assumption) (by omega)))))
  have hsz := Lib.hid (show W.heap.size = w.heap.size + 3 by rw [hW]; simp)
  have HW := Lib.hid hW
  obtain ⟨e0, he0⟩ : ∃ e0, askL l nx [pid, target] = e0 := ⟨_, rfl⟩
  have HE := Lib.hid he0
  clear h hW he0
  go_enter Tryz.func16, Tryz.ntmps16
  go_wp2_with fail
  rw [← HW.out]
  refine (ask_any (B := fun _ => True) Ad _ c _ l nx [pid, target] _ (H.out.ext (E0.alloc _)) (RI.y (l := [pid, target]) (RdN.twoB (by first | (rw [HW.out]; simp; done) | rfl) _ _ _))).mono ?_
  rintro e w1 ⟨rfl, E1⟩
  rw [HE.out]
  have EW1 : Ext W w1 := Ext.trans ((Ext.refl W).alloc _) E1
  have E01 : Ext w w1 := E0.trans EW1
  clear E1
  have kb := (hbox.out.ext EW1).two
  have ks := (hres.out.ext EW1).two
  by_cases hz : e0 = 0
  · subst hz
    obtain ⟨ha1, ha2⟩ := askL_two HE.out
    obtain ⟨hr, p, hgp, hpl, _⟩ := askL_live ha1
    obtain ⟨_, x, hgx, hxl, hxp⟩ := askL_live ha2
    have hpok := hoks.out p hpl
    have hxok := hoks.out x hxl
    have hlt2 : liveL l nx target = true := by
      have := ha2
      unfold askL at this
      rw [hr] at this
      cases hl : liveL l nx target
      · simp [hl] at this
      · rfl
    have HL := Lib.hid (right_len hr).1
    have HR := Lib.hid hr
    have HXL := Lib.hid hxl
    have HXP := Lib.hid hxp
    have HLT := Lib.hid hlt2
    have hg1 := get_any (A := fun _ => False) Ad c l nx pid w1 (H.out.ext E01)
    have hg2 := fun w h => get_any (A := fun _ => False) Ad c l nx target w h
    rw [hgp] at hg1
    simp only [hgx] at hg2
    have HG1 := Lib.hid hg1
    have HG2 := Lib.hid hg2
    have HGP := Lib.hid hgp
    have HGX := Lib.hid hgx
    clear ha1 ha2 hr hgp hpl hgx hxl hxp hlt2 hg1 hg2 ks
    go_wp2_with fail
    refine HG1.out.mono ?_
    rintro e w2 ⟨rfl, E2⟩
    have EW2 := EW1.trans E2
    obtain ⟨n11, hn11⟩ : ∃ n11, w2.heap.size = n11 := ⟨_, rfl⟩
    clear kb
    go_wp2_with ((refine wpList_store_A rfl 42 _ _ rfl (n11) _ rfl rfl 42 _ (zero_row w2 n11 hn11) (by rw [List.size_toArray]; exact i43' hpok) (Eq.trans (b := 43) (by rfl) (Eq.symm (show (p).cells.toArray.size = 43 from Pr.size hpok))) (Pr.one hpok) ?_); intro w3 H3 E3; have E23 : Ext w2 w3 := E3 w2.heap.size w2 ((Ext.refl w2).alloc _) (by omega); have b11 := Lib.hid H3; have kb := (hbox.out.ext (EW2.trans E23)).two; clear E3 H3)
    have EW3 := EW2.trans E23
    refine (HG2.out _ (H.out.ext (E0.trans EW3))).mono ?_
    rintro e w4 ⟨rfl, E4⟩
    have EW4 := EW3.trans E4
    have b11 := Lib.hid (b11.out.ext E4)
    obtain ⟨n13, hn13⟩ : ∃ n13, w4.heap.size = n13 := ⟨_, rfl⟩
    clear kb hn11 E23 E4
    go_wp2_with ((refine wpList_store_A rfl 42 _ _ rfl (n13) _ rfl rfl 42 _ (zero_row w4 n13 hn13) (by rw [List.size_toArray]; exact i43' hxok) (Eq.trans (b := 43) (by rfl) (Eq.symm (show (x).cells.toArray.size = 43 from Pr.size hxok))) (Pr.one hxok) ?_); intro w5 H5 E5; have E45 : Ext w4 w5 := E5 w4.heap.size w4 ((Ext.refl w4).alloc _) (by omega); have b13 := Lib.hid H5; have b11 := Lib.hid (b11.out.ext E45); clear E5 H5)
    have EW5 := EW4.trans E45
    have E05 := E0.trans EW5
    have hb5 := Lib.hid (hbox.out.ext EW5)
    have hs5 := Lib.hid (hst.out.ext EW5)
    have hf5 := Lib.hid (asks_fellow hxok hs5.out b13.out)
    clear hn13
    refine wp_region_held_drew (S := fun w' => Ext w5 w') (by kernel_rfl) (Ext.drew (Ext.refl _)) (fun hHeld => ?_)
    (refine wpAnyH_take (i := 0) (v := ?_) rfl (by kernel_rfl) (by kernel_rfl) (by kernel_rfl) (fun _ _ _ h => h) (Or.inl ⟨by rfl, ?_⟩) (by assumption) ?_; rotate_left; (focus (intro w' hSw; have kc := (hb5.out.ext hSw).two; go_simp; try with_reducible rfl)); (try simp only [List.getElem_toArray]); (try simp only [List.getElem_cons_succ]); (try simp only [List.getElem_cons_zero]); (try simp only [Act.put]); (try simp only [List.setIfInBounds_toArray]); (try simp only [List.set_cons_succ]); (try simp only [List.set_cons_zero]))
    (refine wpAnyH_take (i := 1) (v := ?_) rfl (by kernel_rfl) (by kernel_rfl) (by kernel_rfl) (fun _ _ _ h => h) (Or.inl ⟨by rfl, ?_⟩) (by assumption) ?_; rotate_left; (focus (intro w' hSw; go_simp; try with_reducible rfl)); (try simp only [List.getElem_toArray]); (try simp only [List.getElem_cons_succ]); (try simp only [List.getElem_cons_zero]); (try simp only [Act.put]); (try simp only [List.setIfInBounds_toArray]); (try simp only [List.set_cons_succ]); (try simp only [List.set_cons_zero]))
    (refine wpAnyH_ready (rs := [2]) (by kernel_rfl) (by simp) ?_; refine AllReadyH.cons rfl (fun K hK => ?_) AllReadyH.nil; go_simp; refine hK.out _ _ (by repeat (first | with_reducible exact Ext.refl _ | refine Ext.drewN ?_ _ | refine Ext.drew ?_ | refine Ext.alloc ?_ _ | assumption | (refine Below.trans ?_ (by assumption)) | (refine Ext.trans ?_ (by assumption)) | (refine Below.trans ?_ (Below.mono (by assumption) (by omega))))) (fun hHeld => ?_); clear hK K; (try simp only [Act.put]); (try simp only [List.getElem_toArray]); (try simp only [List.getElem_cons_succ]); (try simp only [List.getElem_cons_zero]); (try simp only [List.setIfInBounds_toArray]); (try simp only [List.set_cons_succ]); (try simp only [List.set_cons_zero]))
    (refine wpAnyH_ready (rs := [3]) (by kernel_rfl) (by simp) ?_; refine AllReadyH.cons rfl (fun K hK => ?_) AllReadyH.nil; go_simp; go_at_call 35; refine (all_any (t1 := liveP) (t2 := fellowP group x.session) _ _ (Blk.at_ _ _ rfl) (asks_lives _) (hf5.out.ext ((Ext.drew (Ext.refl _)).alloc _))).mono ?_; rintro e w6 ⟨n6, rfl, F6, E6⟩; (try dsimp only); refine hK.out _ _ (by repeat (first | with_reducible exact Ext.refl _ | refine Ext.drewN ?_ _ | refine Ext.drew ?_ | refine Ext.alloc ?_ _ | assumption | (refine Below.trans ?_ (by assumption)) | (refine Ext.trans ?_ (by assumption)) | (refine Below.trans ?_ (Below.mono (by assumption) (by omega))))) (fun hHeld => ?_); clear hK K; (try simp only [Act.put]); (try simp only [List.getElem_toArray]); (try simp only [List.getElem_cons_succ]); (try simp only [List.getElem_cons_zero]); (try simp only [List.setIfInBounds_toArray]); (try simp only [List.set_cons_succ]); (try simp only [List.set_cons_zero]))
    have E57 : Ext w5 w6 := by assumption
    have hfind := find_any Ad c l nx w6 (H.out.ext (E05.trans E57)) F6
    (refine wpAnyH_ready (rs := [4]) (by kernel_rfl) (by simp) ?_; refine AllReadyH.cons rfl (fun K hK => ?_) AllReadyH.nil; go_simp; go_at_call 34; refine (hfind).mono ?_; rintro e w7 ⟨E7, (⟨hx, m0, rfl, hm0, hz⟩ | ⟨j, b, off, hx, hlt, rfl, rfl⟩)⟩; all_goals ((try dsimp only); refine hK.out _ _ (by repeat (first | with_reducible exact Ext.refl _ | refine Ext.drewN ?_ _ | refine Ext.drew ?_ | refine Ext.alloc ?_ _ | assumption | (refine Below.trans ?_ (by assumption)) | (refine Ext.trans ?_ (by assumption)) | (refine Below.trans ?_ (Below.mono (by assumption) (by omega))))) (fun hHeld => ?_); clear hK K; (try simp only [Act.put]); (try simp only [List.getElem_toArray]); (try simp only [List.getElem_cons_succ]); (try simp only [List.getElem_cons_zero]); (try simp only [List.setIfInBounds_toArray]); (try simp only [List.set_cons_succ]); (try simp only [List.set_cons_zero])))
    all_goals
      (refine wpAnyH_take (i := 5) (v := ?_) rfl (by kernel_rfl) (by kernel_rfl) (by kernel_rfl) (fun _ _ _ h => h) (Or.inl ⟨by rfl, ?_⟩) (by assumption) ?_; rotate_left; (focus (intro w' hSw; go_simp; try with_reducible rfl)); (try simp only [List.getElem_toArray]); (try simp only [List.getElem_cons_succ]); (try simp only [List.getElem_cons_zero]); (try simp only [Act.put]); (try simp only [List.setIfInBounds_toArray]); (try simp only [List.set_cons_succ]); (try simp only [List.set_cons_zero]))
      (refine wpAnyH_take (i := 6) (v := ?_) rfl (by kernel_rfl) (by kernel_rfl) (by kernel_rfl) (fun _ _ _ h => h) (Or.inl ⟨by rfl, ?_⟩) (by assumption) ?_; rotate_left; (focus (intro w' hSw; go_simp; try with_reducible rfl)); (try simp only [List.getElem_toArray]); (try simp only [List.getElem_cons_succ]); (try simp only [List.getElem_cons_zero]); (try simp only [Act.put]); (try simp only [List.setIfInBounds_toArray]); (try simp only [List.set_cons_succ]); (try simp only [List.set_cons_zero]))
      (refine wpAnyH_take (i := 7) (v := ?_) rfl (by kernel_rfl) (by kernel_rfl) (by kernel_rfl) (fun _ _ _ h => h) (Or.inl ⟨by rfl, ?_⟩) (by assumption) ?_; rotate_left; (focus (intro w' hSw; go_simp; try with_reducible rfl)); (try simp only [List.getElem_toArray]); (try simp only [List.getElem_cons_succ]); (try simp only [List.getElem_cons_zero]); (try simp only [Act.put]); (try simp only [List.setIfInBounds_toArray]); (try simp only [List.set_cons_succ]); (try simp only [List.set_cons_zero]))
      (refine wpAnyH_take (i := 8) (v := ?_) rfl (by kernel_rfl) (by kernel_rfl) (by kernel_rfl) (fun _ _ _ h => h) (Or.inl ⟨by rfl, ?_⟩) (by assumption) ?_; rotate_left; (focus (intro w' hSw; go_simp; try with_reducible rfl)); (try simp only [List.getElem_toArray]); (try simp only [List.getElem_cons_succ]); (try simp only [List.getElem_cons_zero]); (try simp only [Act.put]); (try simp only [List.setIfInBounds_toArray]); (try simp only [List.set_cons_succ]); (try simp only [List.set_cons_zero]))
      (refine wpAnyH_take (i := 9) (v := ?_) rfl (by kernel_rfl) (by kernel_rfl) (by kernel_rfl) (fun _ _ _ h => h) (Or.inl ⟨by rfl, ?_⟩) (by assumption) ?_; rotate_left; (focus (intro w' hSw; go_simp; try with_reducible rfl)); (try simp only [List.getElem_toArray]); (try simp only [List.getElem_cons_succ]); (try simp only [List.getElem_cons_zero]); (try simp only [Act.put]); (try simp only [List.setIfInBounds_toArray]); (try simp only [List.set_cons_succ]); (try simp only [List.set_cons_zero]))
      refine wpAnyH_done (by kernel_rfl) ?_ _
      have E58 := E57.trans E7
      have EW7 := EW5.trans E58
      have E07 := E0.trans EW7
      have b11 := Lib.hid (b11.out.ext E58)
      have b13 := Lib.hid (b13.out.ext E58)
      have kb := (hbox.out.ext EW7).two
      have ks := (hres.out.ext EW7).two
      have kg := (hst.out.ext EW7).cell0
      have p3 := (prAt_blk hpok b11.out).c3
      have x1 := (prAt_blk hxok b13.out).c1
      have x3 := (prAt_blk hxok b13.out).c3
      clear F6 hfind
    · clear hx hm0 hz
      have hM7 : Mod (fun k => k = w.heap.size + 1 + 1) w7 _ := ((Mod.refl _ w7).set1 (.slice Ad l.length c) (o := 0)).set1 (.int .i64 nx) (o := 1)
      obtain ⟨q0, q1, _, _⟩ := ((hres.out.ext EW7).put2 (.slice Ad l.length c) (.int .i64 nx)).two
      cases h1 : (target != pid) <;> cases h5 : (group != target)
      all_goals
        have H1 := Lib.hid h1
        have H5 := Lib.hid h5
        go_wp2_with fail
        all_goals first
          | (refine bodyPost_ret (v := .tuple #[tv Ad l.length c nx, .int .i64 12]) ?_ rfl ?_; (focus (simp [results, Tryz.results16, go_sem, q0, q1]; done)); exact ⟨Mod.toExt E07 hM7 (by intro k hk he; omega), .inl ⟨12, rfl, rfl, fun hg => by obtain ⟨_, p', x', e1, e2, ha, hb, hc, hd⟩ := hg; rw [HGP.out] at e1; rw [HGX.out] at e2; cases e1; cases e2; have q1 := H1.out; have q5 := H5.out; simp at q1 q5; first | omega | (simp_all; done)⟩⟩)
          | skip
        all_goals
          refine (change_any (g := groupP group) Ad c l nx target w7 (H.out.ext E07) (by have := HL.out; omega) (turns_group w7 (hst.out.ext EW7))).mono ?_
          rintro e w8 ⟨A8, c8, rfl, O8, E8⟩
          have S8 := hres.out.ext (EW7.trans E8)
          have ks := S8.two
          have hz1 := EW7.size
          have hr3 := Lib.hid O8.row
          have hM8 : Mod (fun k => k = w.heap.size + 1 + 1) w8 _ := ((Mod.refl _ w8).set1 (.slice A8 l.length c8) (o := 0)).set1 (.int .i64 nx) (o := 1)
          obtain ⟨r0, r1, _, _⟩ := (S8.put2 (.slice A8 l.length c8) (.int .i64 nx)).two
          have HZ := Lib.hid (show w.heap.size + 3 ≤ w7.heap.size by have := hsz.out; omega)
          clear hz1 q0 q1 hM7
          go_wp2
          refine bodyPost_ret (v := .tuple #[tv A8 l.length c8 nx, .int .i64 0]) (by simp [results, Tryz.results16, go_sem, r0, r1]) rfl ?_
          have hz := HZ.out
          refine ⟨Mod.toExt (E07.trans E8) hM8 (by intro k hk he; omega), .inr ⟨HR.out, x, HXL.out, HXP.out, HLT.out, ?_, A8, c8, rfl, (O8.mod hM8 (fun k hk he => by have := (hr3.out k hk).1; omega) (fun k _ hk _ => hk)).lower (by omega)⟩⟩
          first
            | exact .inl (by simpa using H5.out)
            | exact .inr HKN.out
    · obtain ⟨b', off', m, hAd, hd, hmok, hcell⟩ := pr_at H.out hlt
      have hfs := find_some hx hd.out
      have hml := List.mem_of_find?_eq_some hfs
      have hmf := List.find?_some hfs
      simp only [Bool.and_eq_true, fellowP, beq_iff_eq] at hmf
      have HKN := Lib.hid (show ∃ m ∈ l, liveP m = true ∧ m.group = group ∧ m.session = x.session from ⟨m, hml, hmf.1, hmf.2.1, hmf.2.2⟩)
      clear hAd hd hmok hcell hx hlt hfs hml hmf
      have hM7 : Mod (fun k => k = w.heap.size + 1 + 1) w7 _ := ((Mod.refl _ w7).set1 (.slice (some ⟨b, off, none⟩) l.length c) (o := 0)).set1 (.int .i64 nx) (o := 1)
      obtain ⟨q0, q1, _, _⟩ := ((hres.out.ext EW7).put2 (.slice (some ⟨b, off, none⟩) l.length c) (.int .i64 nx)).two
      cases h1 : (target != pid) <;> cases h5 : (group != target)
      all_goals
        have H1 := Lib.hid h1
        have H5 := Lib.hid h5
        go_wp2_with fail
        all_goals first
          | (refine bodyPost_ret (v := .tuple #[tv (some ⟨b, off, none⟩) l.length c nx, .int .i64 12]) ?_ rfl ?_; (focus (simp [results, Tryz.results16, go_sem, q0, q1]; done)); exact ⟨Mod.toExt E07 hM7 (by intro k hk he; omega), .inl ⟨12, rfl, rfl, fun hg => by obtain ⟨_, p', x', e1, e2, ha, hb, hc, hd⟩ := hg; rw [HGP.out] at e1; rw [HGX.out] at e2; cases e1; cases e2; have q1 := H1.out; have q5 := H5.out; simp at q1 q5; first | omega | (simp_all; done)⟩⟩)
          | skip
        all_goals
          refine (change_any (g := groupP group) (some ⟨b, off, none⟩) c l nx target w7 (H.out.ext E07) (by have := HL.out; omega) (turns_group w7 (hst.out.ext EW7))).mono ?_
          rintro e w8 ⟨A8, c8, rfl, O8, E8⟩
          have S8 := hres.out.ext (EW7.trans E8)
          have ks := S8.two
          have hz1 := EW7.size
          have hr3 := Lib.hid O8.row
          have hM8 : Mod (fun k => k = w.heap.size + 1 + 1) w8 _ := ((Mod.refl _ w8).set1 (.slice A8 l.length c8) (o := 0)).set1 (.int .i64 nx) (o := 1)
          obtain ⟨r0, r1, _, _⟩ := (S8.put2 (.slice A8 l.length c8) (.int .i64 nx)).two
          have HZ := Lib.hid (show w.heap.size + 3 ≤ w7.heap.size by have := hsz.out; omega)
          clear hz1 q0 q1 hM7
          go_wp2
          refine bodyPost_ret (v := .tuple #[tv A8 l.length c8 nx, .int .i64 0]) (by simp [results, Tryz.results16, go_sem, r0, r1]) rfl ?_
          have hz := HZ.out
          refine ⟨Mod.toExt (E07.trans E8) hM8 (by intro k hk he; omega), .inr ⟨HR.out, x, HXL.out, HXP.out, HLT.out, ?_, A8, c8, rfl, (O8.mod hM8 (fun k hk he => by have := (hr3.out k hk).1; omega) (fun k _ hk _ => hk)).lower (by omega)⟩⟩
          first
            | exact .inl (by simpa using H5.out)
            | exact .inr HKN.out
  · have hz2 : (e0 != 0) = true := by simpa using hz
    have hM7 : Mod (fun k => k = w.heap.size + 1 + 1) w1 _ := ((Mod.refl _ w1).set1 (.slice Ad l.length c) (o := 0)).set1 (.int .i64 nx) (o := 1)
    obtain ⟨q0, q1, _, _⟩ := ((hres.out.ext EW1).put2 (.slice Ad l.length c) (.int .i64 nx)).two
    go_wp2
    refine bodyPost_ret (v := .tuple #[tv Ad l.length c nx, .int .i64 e0]) (by simp [results, Tryz.results16, go_sem, q0, q1]) rfl ?_
    exact ⟨Mod.toExt E01 hM7 (by intro k hk he; omega), .inl ⟨e0, by simpa using hz, rfl, fun hg => hz (HE.out.symm.trans hg.1)⟩⟩

end Go.Proofs.YteljobleojhgmaaGreat
