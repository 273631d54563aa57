/- Wait, without the document: walked; the law answers true. Conditions: the processes' numbers fit. -/
import Derived.Test.YtmpmnikgbepphaaTA20
namespace Go.Proofs.Ytmpmnikgbepphaa
open Go.RowKit Go.Kb

set_option maxRecDepth 100000 in
set_option maxHeartbeats 2000000 in
theorem tableWaits_walk {A : Nat → Prop} (Ad : Option Addr) (c : Nat) (l : List Pr) (nx pid how : Int) (w : World) (h : RdY Rp A w (.slice Ad l.length c) l) (hw : ∀ p ∈ l, p.wf) :
    Calls Try.prog 3 #[tv Ad l.length c nx, .int .i64 pid, .int .i64 how] w fun e w' => e = .returned (.bool true) ∧ Ext w w' := by
  have H := Lib.hid (rdy_pr (B := fun _ => False) h)
  have hoks := Lib.hid (RdY.oks h)
  have HWF := Lib.hid hw
  obtain ⟨N, hN⟩ : ∃ N, l.length = N := ⟨_, rfl⟩
  rw [hN] at H ⊢
  have HN := Lib.hid hN
  have hbox := Lib.hid (Blk.new w 24 #[.slice Ad N c, .int .i64 nx])
  have E0 : Ext w (w.alloc (.cells #[.slice Ad N c, .int .i64 nx] 24)) := (by repeat (first | with_reducible exact Ext.refl _ | refine Ext.drewN ?_ _ | refine Ext.drew ?_ | refine Ext.alloc ?_ _ | assumption | (refine Below.trans ?_ (by assumption)) | (refine Ext.trans ?_ (by assumption)) | (refine Below.trans ?_ (Below.mono (by assumption) (by omega)))))
  have hgr := fun w => great_any Ad c l nx w
  rw [hN] at hgr
  have HGR := Lib.hid hgr
  clear h hw hN hgr
  go_enter Try.func3, Try.ntmps3
  go_wp2_with fail
  refine (alive_any _).mono ?_
  rintro e w1 ⟨rfl, E1⟩
  have hbox := Lib.hid (hbox.out.ext E1)
  have E01 : Ext w w1 := E0.trans E1
  clear E0 E1
  have kb := hbox.out.two
  go_wp2_with fail
  refine (HGR.out _).mono ?_
  rintro e w2 ⟨rfl, E2⟩
  have hbox := Lib.hid (hbox.out.ext E2)
  have E02 := E01.trans E2
  have kb := hbox.out.two
  clear E01 E2
  by_cases hg : 60 < N
  · have hg2 : decide (60 < N) = true := decide_eq_true hg
    rw [hg2]
    clear hg
    go_wp2
    go_ret
    exact ⟨rfl, E02⟩
  have hg2 : decide (60 < N) = false := decide_eq_false hg
  rw [hg2]
  clear hg2
  have HG := Lib.hid hg
  have href := fun w h => ref_any (A := fun _ => False) Ad c l nx w h (by rw [HN.out]; have := HG.out; omega)
  have hto := fun A1 c1 w h => to_any (A := fun _ => False) A1 c1 l nx w h (by rw [HN.out]; have := HG.out; omega)
  have hfrom := fun A1 c1 w h => from_any (A := fun _ => False) A1 c1 l nx w h (by rw [HN.out]; have := HG.out; omega)
  rw [HN.out] at href hto hfrom
  have HREF := Lib.hid href
  have HTO := Lib.hid hto
  have HFROM := Lib.hid hfrom
  clear hg href hto hfrom
  go_wp2_with fail
  refine (HREF.out _ (H.out.ext E02)).mono ?_
  rintro e w3 ⟨A3, c3, rfl, O3, E3⟩
  go_wp2_with fail
  refine (HTO.out A3 c3 _ (rdy_pr O3.y)).mono ?_
  rintro e w4 ⟨A4, c4, rfl, O4, E4⟩
  have E24 := E3.trans E4
  have E04 := E02.trans E24
  have hbox := Lib.hid (hbox.out.ext E24)
  clear O3 E3 E4 E24 kb
  obtain ⟨n7, hn7⟩ : ∃ n7, w4.heap.size = n7 := ⟨_, rfl⟩
  obtain ⟨W, hW⟩ : ∃ W, W = w4.alloc (.cells #[.slice A4 N c4, .int .i64 nx] 29) := ⟨_, rfl⟩
  have B7 := Lib.hid (show Blk W n7 29 #[.slice A4 N c4, .int .i64 nx] by rw [hW]; exact Blk.at_ _ _ hn7)
  have EW : Ext w4 W := by rw [hW]; exact (Ext.refl _).alloc _
  have RT := Lib.hid (rdy_pr (B := fun _ => False) (O4.ext EW).y)
  have hbox := Lib.hid (hbox.out.ext EW)
  have E0W := E04.trans EW
  have HW := Lib.hid hW
  have HN7 := Lib.hid hn7
  clear hn7 hW O4 EW E04
  have hwait := wait_any (A := fun _ => False) A4 c4 l nx pid how W (by rw [HN.out]; exact RT.out)
  rw [HN.out] at hwait
  have HF := Lib.hid hwait
  clear hwait
  go_wp2_with fail
  rw [HN7.out, ← HW.out]
  refine HF.out.mono ?_
  intro e w5 hp
  obtain ⟨E5, (⟨x, rfl⟩ | ⟨p, A5, c5, hg1, hg2, h0, hpar, hst, hlen, h32, hpl, rfl, O5⟩ | ⟨p, A5, c5, hg1, hg2, h0, hpar, hst, htd, h32, hpl, rfl, O5⟩)⟩ := wait_cases hp
  · rw [HN.out]
    obtain ⟨n8, hn8⟩ : ∃ n8, w5.heap.size = n8 := ⟨_, rfl⟩
    obtain ⟨W8, hW8⟩ : ∃ W8, W8 = w5.alloc (.cells #[.slice A4 N c4, .int .i64 nx] 29) := ⟨_, rfl⟩
    have B8 := Lib.hid (show Blk W8 n8 29 #[.slice A4 N c4, .int .i64 nx] by rw [hW8]; exact Blk.at_ _ _ hn8)
    have E8 : Ext W W8 := by rw [hW8]; exact E5.alloc _
    have HW8 := Lib.hid hW8
    have HN8 := Lib.hid hn8
    have kb := (B7.out.ext E5).two
    have hsame := fun Ad Bd c d w h g => same_any (A := fun _ => False) (B := fun _ => False) Ad Bd c d l nx w h g HWF.out
    rw [HN.out] at hsame
    have HSAME := Lib.hid hsame
    have h8 := Lib.hid (hbox.out.ext E8)
    have RT8 := Lib.hid (RT.out.ext E8)
    have H8 := Lib.hid (H.out.ext (E0W.trans E8))
    have E08 := E0W.trans E8
    clear hsame hn8 hW8 hp E5 E8 hbox
    by_cases hx : x = 0
    all_goals
      first
        | (obtain rfl := hx)
        | (have hx2 : (x != 0) = true := by simpa using hx)
      go_wp2
      rw [HN8.out, ← HW8.out]
      refine wp_region_held_drew (S := fun w' => Ext W8 w') (by kernel_rfl) (Ext.drew (Ext.refl _)) (fun hHeld => ?_)
      (refine wpAnyH_take (i := 0) (v := ?_) rfl (by kernel_rfl) (by kernel_rfl) (by kernel_rfl) (fun _ _ _ h => h) (Or.inl ⟨by rfl, ?_⟩) (by assumption) ?_; rotate_left; (focus (intro w' hSw; have kc := (B8.out.ext hSw).two; go_simp; try with_reducible rfl)); (try simp only [List.getElem_toArray]); (try simp only [List.getElem_cons_succ]); (try simp only [List.getElem_cons_zero]); (try simp only [Act.put]); (try simp only [List.setIfInBounds_toArray]); (try simp only [List.set_cons_succ]); (try simp only [List.set_cons_zero]))
      (refine wpAnyH_take (i := 2) (v := ?_) rfl (by kernel_rfl) (by kernel_rfl) (by kernel_rfl) (fun _ _ _ h => h) (Or.inl ⟨by rfl, ?_⟩) (by assumption) ?_; rotate_left; (focus (intro w' hSw; have kc := (h8.out.ext hSw).two; go_simp; try with_reducible rfl)); (try simp only [List.getElem_toArray]); (try simp only [List.getElem_cons_succ]); (try simp only [List.getElem_cons_zero]); (try simp only [Act.put]); (try simp only [List.setIfInBounds_toArray]); (try simp only [List.set_cons_succ]); (try simp only [List.set_cons_zero]))
      (refine wpAnyH_ready (rs := [1]) (by kernel_rfl) (by simp) ?_; refine AllReadyH.cons rfl (fun K hK => ?_) AllReadyH.nil; go_simp; go_at_call 14; refine (HFROM.out A4 c4 _ (RT8.out.ext (Ext.drew (Ext.refl _)))).mono ?_; rintro e w9 ⟨A9, c9, rfl, O9, E9⟩; (try dsimp only); refine hK.out _ _ (Ext.trans (Ext.drew (Ext.refl W8)) E9) (fun hHeld => ?_); clear hK K; (try simp only [Act.put]); (try simp only [List.getElem_toArray]); (try simp only [List.getElem_cons_succ]); (try simp only [List.getElem_cons_zero]); (try simp only [List.setIfInBounds_toArray]); (try simp only [List.set_cons_succ]); (try simp only [List.set_cons_zero]))
      have E69 : Ext W8 w9 := (Ext.drew (Ext.refl W8)).trans E9
      (refine wpAnyH_ready (rs := [3]) (by kernel_rfl) (by simp) ?_; refine AllReadyH.cons rfl (fun K hK => ?_) AllReadyH.nil; go_simp; go_at_call 11; refine (HREF.out _ (H8.out.ext E69)).mono ?_; rintro e w10 ⟨A10, c10, rfl, O10, E10⟩; (try dsimp only); refine hK.out _ _ (E69.trans E10) (fun hHeld => ?_); clear hK K; (try simp only [Act.put]); (try simp only [List.getElem_toArray]); (try simp only [List.getElem_cons_succ]); (try simp only [List.getElem_cons_zero]); (try simp only [List.setIfInBounds_toArray]); (try simp only [List.set_cons_succ]); (try simp only [List.set_cons_zero]))
      (refine wpAnyH_ready (rs := [4]) (by kernel_rfl) (by simp) ?_; refine AllReadyH.cons rfl (fun K hK => ?_) AllReadyH.nil; go_simp; go_at_call 13; refine (HSAME.out _ _ _ _ _ (rdy_pr (O9.ext E10).y) (rdy_pr O10.y)).mono ?_; rintro e w11 ⟨rfl, E11⟩; (try dsimp only); refine hK.out _ _ ((E69.trans E10).trans E11) (fun hHeld => ?_); clear hK K; (try simp only [Act.put]); (try simp only [List.getElem_toArray]); (try simp only [List.getElem_cons_succ]); (try simp only [List.getElem_cons_zero]); (try simp only [List.setIfInBounds_toArray]); (try simp only [List.set_cons_succ]); (try simp only [List.set_cons_zero]))
      (refine wpAnyH_take (i := 5) (v := ?_) rfl (by kernel_rfl) (by kernel_rfl) (by kernel_rfl) (fun _ _ _ h => h) (Or.inl ⟨by rfl, ?_⟩) (by assumption) ?_; rotate_left; (focus (intro w' hSw; go_simp; try with_reducible rfl)); (try simp only [List.getElem_toArray]); (try simp only [List.getElem_cons_succ]); (try simp only [List.getElem_cons_zero]); (try simp only [Act.put]); (try simp only [List.setIfInBounds_toArray]); (try simp only [List.set_cons_succ]); (try simp only [List.set_cons_zero]))
      (refine wpAnyH_take (i := 6) (v := ?_) rfl (by kernel_rfl) (by kernel_rfl) (by kernel_rfl) (fun _ _ _ h => h) (Or.inl ⟨by rfl, ?_⟩) (by assumption) ?_; rotate_left; (focus (intro w' hSw; go_simp; try with_reducible rfl)); (try simp only [List.getElem_toArray]); (try simp only [List.getElem_cons_succ]); (try simp only [List.getElem_cons_zero]); (try simp only [Act.put]); (try simp only [List.setIfInBounds_toArray]); (try simp only [List.set_cons_succ]); (try simp only [List.set_cons_zero]))
      (refine wpAnyH_take (i := 7) (v := ?_) rfl (by kernel_rfl) (by kernel_rfl) (by kernel_rfl) (fun _ _ _ h => h) (Or.inl ⟨by rfl, ?_⟩) (by assumption) ?_; rotate_left; (focus (intro w' hSw; go_simp; try with_reducible rfl)); (try simp only [List.getElem_toArray]); (try simp only [List.getElem_cons_succ]); (try simp only [List.getElem_cons_zero]); (try simp only [Act.put]); (try simp only [List.setIfInBounds_toArray]); (try simp only [List.set_cons_succ]); (try simp only [List.set_cons_zero]))
      (refine wpAnyH_take (i := 8) (v := ?_) rfl (by kernel_rfl) (by kernel_rfl) (by kernel_rfl) (fun _ _ _ h => h) (Or.inl ⟨by rfl, ?_⟩) (by assumption) ?_; rotate_left; (focus (intro w' hSw; go_simp; try with_reducible rfl)); (try simp only [List.getElem_toArray]); (try simp only [List.getElem_cons_succ]); (try simp only [List.getElem_cons_zero]); (try simp only [Act.put]); (try simp only [List.setIfInBounds_toArray]); (try simp only [List.set_cons_succ]); (try simp only [List.set_cons_zero]))
      (refine wpAnyH_take (i := 9) (v := ?_) rfl (by kernel_rfl) (by kernel_rfl) (by kernel_rfl) (fun _ _ _ h => h) (Or.inl ⟨by rfl, ?_⟩) (by assumption) ?_; rotate_left; (focus (intro w' hSw; go_simp; try with_reducible rfl)); (try simp only [List.getElem_toArray]); (try simp only [List.getElem_cons_succ]); (try simp only [List.getElem_cons_zero]); (try simp only [Act.put]); (try simp only [List.setIfInBounds_toArray]); (try simp only [List.set_cons_succ]); (try simp only [List.set_cons_zero]))
      (refine wpAnyH_take (i := 10) (v := ?_) rfl (by kernel_rfl) (by kernel_rfl) (by kernel_rfl) (fun _ _ _ h => h) (Or.inl ⟨by rfl, ?_⟩) (by assumption) ?_; rotate_left; (focus (intro w' hSw; go_simp; try with_reducible rfl)); (try simp only [List.getElem_toArray]); (try simp only [List.getElem_cons_succ]); (try simp only [List.getElem_cons_zero]); (try simp only [Act.put]); (try simp only [List.setIfInBounds_toArray]); (try simp only [List.set_cons_succ]); (try simp only [List.set_cons_zero]))
      (refine wpAnyH_take (i := 11) (v := ?_) rfl (by kernel_rfl) (by kernel_rfl) (by kernel_rfl) (fun _ _ _ h => h) (Or.inl ⟨by rfl, ?_⟩) (by assumption) ?_; rotate_left; (focus (intro w' hSw; go_simp; try with_reducible rfl)); (try simp only [List.getElem_toArray]); (try simp only [List.getElem_cons_succ]); (try simp only [List.getElem_cons_zero]); (try simp only [Act.put]); (try simp only [List.setIfInBounds_toArray]); (try simp only [List.set_cons_succ]); (try simp only [List.set_cons_zero]))
      (refine wpAnyH_take (i := 12) (v := ?_) rfl (by kernel_rfl) (by kernel_rfl) (by kernel_rfl) (fun _ _ _ h => h) (Or.inl ⟨by rfl, ?_⟩) (by assumption) ?_; rotate_left; (focus (intro w' hSw; go_simp; try with_reducible rfl)); (try simp only [List.getElem_toArray]); (try simp only [List.getElem_cons_succ]); (try simp only [List.getElem_cons_zero]); (try simp only [Act.put]); (try simp only [List.setIfInBounds_toArray]); (try simp only [List.set_cons_succ]); (try simp only [List.set_cons_zero]))
      (refine wpAnyH_take (i := 13) (v := ?_) rfl (by kernel_rfl) (by kernel_rfl) (by kernel_rfl) (fun _ _ _ h => h) (Or.inl ⟨by rfl, ?_⟩) (by assumption) ?_; rotate_left; (focus (intro w' hSw; go_simp; try with_reducible rfl)); (try simp only [List.getElem_toArray]); (try simp only [List.getElem_cons_succ]); (try simp only [List.getElem_cons_zero]); (try simp only [Act.put]); (try simp only [List.setIfInBounds_toArray]); (try simp only [List.set_cons_succ]); (try simp only [List.set_cons_zero]))
      refine wpAnyH_done (by kernel_rfl) ?_ _
      go_wp2
      go_ret
      exact ⟨rfl, E08.trans ((E69.trans E10).trans E11)⟩
  · rw [HN.out] at hlen h32
    subst hpar
    obtain ⟨L, hL⟩ : ∃ L, goneL l p.pid = L := ⟨_, rfl⟩
    obtain ⟨M, hM⟩ : ∃ M, L.length = M := ⟨_, rfl⟩
    rw [hL] at hg2 hlen O5 ⊢
    rw [hM] at hlen O5 ⊢
    have HL := Lib.hid hL
    have HM := Lib.hid hM
    have hNM : ((M : Int) == IntKind.i64.wrap ((N : Int) - 1)) = true := by rw [show (N : Int) - 1 = (M : Int) by omega, IntWalk.i64_in _ (by omega)]; simp
    have HNM := Lib.hid hNM
    clear hL hM hNM
    have hok := hoks.out p hpl
    have hk0 : (p.pid == 0) = false := by simpa using h0
    obtain ⟨n8, hn8⟩ : ∃ n8, w5.heap.size = n8 := ⟨_, rfl⟩
    obtain ⟨W8, hW8⟩ : ∃ W8, W8 = w5.alloc (.cells #[.slice A5 M c5, .int .i64 nx] 29) := ⟨_, rfl⟩
    have B8 := Lib.hid (show Blk W8 n8 29 #[.slice A5 M c5, .int .i64 nx] by rw [hW8]; exact Blk.at_ _ _ hn8)
    have E8 : Ext W W8 := by rw [hW8]; exact E5.alloc _
    have R8 := Lib.hid (rdy_pr (B := fun _ => False) (show OwnS Rp 43 W.heap.size (fun _ => False) W8 (.slice A5 M c5) L by rw [hW8]; exact O5.alloc _).y)
    have HW8 := Lib.hid hW8
    have HN8 := Lib.hid hn8
    have kb := (B7.out.ext E5).two
    have kb8 := (B7.out.ext E8).two
    have hget := get_any (A := fun _ => False) A4 c4 l nx p.pid W8 (by rw [HN.out]; exact RT.out.ext E8)
    rw [HN.out, hg1] at hget
    have HGE := Lib.hid hget
    have HG2 := Lib.hid hg2
    have HST := Lib.hid hst
    rw [hW8] at kb8
    clear hn8 hW8 hp hget O5 hg1 hg2 hst
    go_wp2_with fail
    rw [HN8.out, ← HW8.out]
    refine HGE.out.mono ?_
    rintro e w6 ⟨rfl, E6⟩
    have E76 := E8.trans E6
    have B6 := Lib.hid (B8.out.ext E6)
    have b76 := Lib.hid (B7.out.ext E76)
    have R6 := Lib.hid (R8.out.ext E6)
    have E06 := E0W.trans E76
    obtain ⟨n12, hn12⟩ : ∃ n12, w6.heap.size = n12 := ⟨_, rfl⟩
    clear kb8 kb
    go_wp2_with ((refine wpList_store_A rfl 43 _ _ rfl (n12) _ rfl rfl 43 _ (zero_row w6 n12 hn12) (by rw [List.size_toArray]; exact i43' hok) (Eq.trans (b := 43) (by rfl) (Eq.symm (show (p).cells.toArray.size = 43 from Pr.size hok))) (Pr.one hok) ?_); intro w7 H7 E7; have E67 : Ext w6 w7 := E7 w6.heap.size w6 ((Ext.refl w6).alloc _) (by omega); have H7 := Lib.hid H7; have kb7 := (B6.out.ext E67).two; have hat := prAt_blk hok H7.out; have c1 := hat.c1; have c41 := hat.c41; clear E7 hat)
    clear c1 c41
    have R7 := Lib.hid (R6.out.ext E67)
    have hgt := get_any (A := fun _ => False) A5 c5 L nx p.pid w7 (by rw [HM.out]; exact R7.out)
    rw [HM.out, HG2.out] at hgt
    refine hgt.mono ?_
    clear hgt
    rintro e w9 ⟨rfl, E9⟩
    have E69 : Ext w6 w9 := E67.trans E9
    have B9 := Lib.hid (B6.out.ext E69)
    have R9 := Lib.hid (R6.out.ext E69)
    have hat := (prAt_blk hok H7.out).ext E9
    have c4 := hat.c4
    rw [HST.out] at c4
    have kb := B9.out.two
    obtain ⟨n14, hn14⟩ : ∃ n14, w9.heap.size = n14 := ⟨_, rfl⟩
    have h127 := (H7.out.ext E9).lt
    clear hat kb7
    go_wp2_with ((refine wpList_store_A rfl 43 _ _ rfl (n14) _ rfl rfl 43 _ (zero_row w9 n14 hn14) (by rw [List.size_toArray]; exact i43' zeroP_ok) (Eq.trans (b := 43) (by rfl) (Eq.symm (show (zeroP).cells.toArray.size = 43 from Pr.size zeroP_ok))) (Pr.one zeroP_ok) ?_); intro w10 H10 E10; have E910 : Ext w9 w10 := E10 w9.heap.size w9 ((Ext.refl w9).alloc _) (by omega); have c4 := cell_ext E910 c4; have kb := (B9.out.ext E910).two; clear E10)
    have E610 := E69.trans E910
    have R10 := Lib.hid (R9.out.ext E910)
    clear kb c4
    have hw2 := wait_any (A := fun _ => False) A5 c5 L nx p.parent how w10 (by rw [HM.out]; exact R10.out)
    rw [HM.out] at hw2
    refine hw2.mono ?_
    clear hw2
    intro e w11 hq
    rw [← HL.out] at hq
    obtain ⟨E11, A', n', c', n, s, x, rfl, hnp⟩ := wait_who h0 hq
    have hnp2 : (n != p.pid) = true := by simp [bne, hnp]
    have E611 := E610.trans E11
    have kb8 := (B6.out.ext (E611.alloc (.cells #[.slice A' n' c', .int .i64 nx] 29))).two
    have kb7 := (b76.out.ext (E611.alloc (.cells #[.slice A' n' c', .int .i64 nx] 29))).two
    have hNM := HNM.out
    clear hq hnp
    go_wp2
    go_ret
    exact ⟨rfl, E06.trans (E611.alloc _)⟩
  · rw [HN.out] at h32 O5 ⊢
    subst hpar
    obtain ⟨L, hL⟩ : ∃ L, changeL toldP p.pid l = L := ⟨_, rfl⟩
    have hM : L.length = N := by rw [← hL, changeL_len]; exact HN.out
    rw [hL] at hg2 O5
    have HM := Lib.hid hM
    have hok2 : (toldP p).ok := hoks.out p hpl
    have htold : (toldP p).told = true := rfl
    generalize toldP p = q at hg2 hok2 htold
    have HTD := Lib.hid htold
    clear hL hM htold
    have hok := hoks.out p hpl
    have hk0 : (p.pid == 0) = false := by simpa using h0
    obtain ⟨n8, hn8⟩ : ∃ n8, w5.heap.size = n8 := ⟨_, rfl⟩
    obtain ⟨W8, hW8⟩ : ∃ W8, W8 = w5.alloc (.cells #[.slice A5 N c5, .int .i64 nx] 29) := ⟨_, rfl⟩
    have B8 := Lib.hid (show Blk W8 n8 29 #[.slice A5 N c5, .int .i64 nx] by rw [hW8]; exact Blk.at_ _ _ hn8)
    have E8 : Ext W W8 := by rw [hW8]; exact E5.alloc _
    have R8 := Lib.hid (rdy_pr (B := fun _ => False) (show OwnS Rp 43 W.heap.size (fun _ => False) W8 (.slice A5 N c5) L by rw [hW8]; exact O5.alloc _).y)
    have HW8 := Lib.hid hW8
    have HN8 := Lib.hid hn8
    have kb := (B7.out.ext E5).two
    have kb8 := (B7.out.ext E8).two
    have hget := get_any (A := fun _ => False) A4 c4 l nx p.pid W8 (by rw [HN.out]; exact RT.out.ext E8)
    rw [HN.out, hg1] at hget
    have HGE := Lib.hid hget
    have HG2 := Lib.hid hg2
    have HST := Lib.hid hst
    rw [hW8] at kb8
    clear hn8 hW8 hp hget O5 hg1 hg2 hst
    go_wp2_with fail
    rw [HN8.out, ← HW8.out]
    refine HGE.out.mono ?_
    rintro e w6 ⟨rfl, E6⟩
    have E76 := E8.trans E6
    have B6 := Lib.hid (B8.out.ext E6)
    have b76 := Lib.hid (B7.out.ext E76)
    have R6 := Lib.hid (R8.out.ext E6)
    have E06 := E0W.trans E76
    obtain ⟨n12, hn12⟩ : ∃ n12, w6.heap.size = n12 := ⟨_, rfl⟩
    clear kb8 kb
    go_wp2_with ((refine wpList_store_A rfl 43 _ _ rfl (n12) _ rfl rfl 43 _ (zero_row w6 n12 hn12) (by rw [List.size_toArray]; exact i43' hok) (Eq.trans (b := 43) (by rfl) (Eq.symm (show (p).cells.toArray.size = 43 from Pr.size hok))) (Pr.one hok) ?_); intro w7 H7 E7; have E67 : Ext w6 w7 := E7 w6.heap.size w6 ((Ext.refl w6).alloc _) (by omega); have H7 := Lib.hid H7; have kb7 := (B6.out.ext E67).two; have hat := prAt_blk hok H7.out; have c1 := hat.c1; have c41 := hat.c41; clear E7 hat)
    clear c1 c41
    have R7 := Lib.hid (R6.out.ext E67)
    have hgt := get_any (A := fun _ => False) A5 c5 L nx p.pid w7 (by rw [HM.out]; exact R7.out)
    rw [HM.out, HG2.out] at hgt
    refine hgt.mono ?_
    clear hgt
    rintro e w9 ⟨rfl, E9⟩
    have E69 : Ext w6 w9 := E67.trans E9
    have B9 := Lib.hid (B6.out.ext E69)
    have hat := (prAt_blk hok H7.out).ext E9
    have c4 := hat.c4
    have c42 := hat.c42
    rw [HST.out] at c4
    rw [htd] at c42
    have kb := B9.out.two
    have b7 := Lib.hid (b76.out.ext E69)
    obtain ⟨n14, hn14⟩ : ∃ n14, w9.heap.size = n14 := ⟨_, rfl⟩
    have h127 := (H7.out.ext E9).lt
    clear hat kb7
    go_wp2_with ((refine wpList_store_A rfl 43 _ _ rfl (n14) _ rfl rfl 43 _ (zero_row w9 n14 hn14) (by rw [List.size_toArray]; exact i43' hok2) (Eq.trans (b := 43) (by rfl) (Eq.symm (show (q).cells.toArray.size = 43 from Pr.size hok2))) (Pr.one hok2) ?_); intro w10 H10 E10; have E910 : Ext w9 w10 := E10 w9.heap.size w9 ((Ext.refl w9).alloc _) (by omega); have c4 := cell_ext E910 c4; have c42 := cell_ext E910 c42; have d42 := (prAt_blk hok2 H10).c42; rw [HTD.out] at d42; have kb := (B9.out.ext E910).two; have kb7 := (b7.out.ext E910).two; clear E10)
    go_ret
    exact ⟨rfl, E06.trans (E69.trans E910)⟩
end Go.Proofs.Ytmpmnikgbepphaa
