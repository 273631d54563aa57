/- DeliverSettles walked: the law answers true for every argument. Condition: the numbers fit. -/
import Derived.Test.YteljobleojhgmaaGreatBB21
import Derived.Test.YteljobleojhgmaaGreatCB21
import Derived.Test.YteljobleojhgmaaGreatHA21
namespace Go.Proofs.YteljobleojhgmaaGreat
open Go.RowKit Go.Kb

set_option maxRecDepth 100000 in
set_option maxHeartbeats 3000000 in
theorem lsame_any {A B : Nat → Prop} (Ad Bd : Option Addr) (c d : Nat) (l : List Pr) (nx : Int) (w : World) (h : RdY Rp A w (.slice Ad l.length c) l) (g : RdY Rp B w (.slice Bd l.length d) l) (hw : WfL l) (hn : l.length ≤ 100000) :
    Calls Tryz.prog 8 #[tv Ad l.length c nx, tv Bd l.length d nx] w fun e w' => e = .returned (.bool true) ∧ Ext w w' := by
  have H := Lib.hid (rdy_pr (B := fun _ => False) h)
  have G := Lib.hid (rdy_pr (B := fun _ => False) g)
  have HWF := Lib.hid hw
  obtain ⟨N, hN⟩ : ∃ N, l.length = N := ⟨_, rfl⟩
  have HN := Lib.hid hN
  obtain ⟨W, hW⟩ : ∃ W, W = (w.alloc (.cells #[.slice Ad N c, .int .i64 nx] 29)).alloc (.cells #[.slice Bd N d, .int .i64 nx] 33) := ⟨_, rfl⟩
  have B3 := Lib.hid (show Blk W (w.heap.size + 1) 33 #[.slice Bd N d, .int .i64 nx] by rw [hW]; exact Blk.at_ _ _ (by simp))
  have B2 := Lib.hid (show Blk W w.heap.size 29 #[.slice Ad N c, .int .i64 nx] by rw [hW]; exact (Blk.new w _ _).alloc _)
  have E0 : Ext w W := by rw [hW]; exact (by repeat (first | with_reducible exact Ext.refl _ | refine Ext.drewN ?_ _ | refine Ext.drew ?_ | refine Ext.alloc ?_ _ | assumption | (refine Below.trans ?_ (by assumption)) | (refine Ext.trans ?_ (by assumption)) | (refine Below.trans ?_ (Below.mono (by assumption) (by omega)))))
  have HW := Lib.hid hW
  have HFR := Lib.hid fun w' (E : Ext w w') => from_any (A := fun _ => False) Ad c l nx w' (H.out.ext E) hn
  have HSM := Lib.hid fun A' c' w' (E : Ext w w') (h : RdY Rp (fun _ => False) w' (.slice A' l.length c') l) => same_any (A := fun _ => False) (B := fun _ => False) A' Bd c' d l nx w' h (G.out.ext E) HWF.out
  rw [hN] at HFR HSM ⊢
  clear h g hw hW hN
  go_enter Tryz.func8, Tryz.ntmps8
  go_upto_region 1 with fail
  rw [← HW.out]
  clear HW
  refine wp_region_held_drew (S := fun w' => Ext W w') (by kernel_rfl) (Ext.drew (Ext.refl _)) (fun hHeld => ?_)
  (refine wpAnyH_take (i := 0) (v := ?_) rfl (by kernel_rfl) (by kernel_rfl) (by kernel_rfl) (fun _ _ _ h => h) (Or.inl ⟨by rfl, ?_⟩) (by assumption) ?_; rotate_left; (focus (intro w' hSw; have kc := (B2.out.ext hSw).two; go_simp; try with_reducible rfl)); (try simp only [List.getElem_toArray]); (try simp only [List.getElem_cons_succ]); (try simp only [List.getElem_cons_zero]); (try simp only [Act.put]); (try simp only [List.setIfInBounds_toArray]); (try simp only [List.set_cons_succ]); (try simp only [List.set_cons_zero]))
  (refine wpAnyH_take (i := 2) (v := ?_) rfl (by kernel_rfl) (by kernel_rfl) (by kernel_rfl) (fun _ _ _ h => h) (Or.inl ⟨by rfl, ?_⟩) (by assumption) ?_; rotate_left; (focus (intro w' hSw; have kc := (B3.out.ext hSw).two; go_simp; try with_reducible rfl)); (try simp only [List.getElem_toArray]); (try simp only [List.getElem_cons_succ]); (try simp only [List.getElem_cons_zero]); (try simp only [Act.put]); (try simp only [List.setIfInBounds_toArray]); (try simp only [List.set_cons_succ]); (try simp only [List.set_cons_zero]))
  obtain ⟨D, hD⟩ : ∃ D, D = W.drew := ⟨_, rfl⟩
  have ED : Ext W D := by rw [hD]; exact (Ext.refl _).drew
  rw [← hD]
  clear hD
  (refine wpAnyH_ready (rs := [1]) (by kernel_rfl) (by simp) ?_; refine AllReadyH.cons rfl (fun K hK => ?_) AllReadyH.nil; go_simp; go_at_call 13; refine (HFR.out _ (E0.trans ED)).mono ?_; rintro e w4 ⟨A4, c4, rfl, O4, E4⟩; (try dsimp only); refine hK.out _ _ (ED.trans E4) (fun hHeld => ?_); clear hK K; (try simp only [Act.put]); (try simp only [List.getElem_toArray]); (try simp only [List.getElem_cons_succ]); (try simp only [List.getElem_cons_zero]); (try simp only [List.setIfInBounds_toArray]); (try simp only [List.set_cons_succ]); (try simp only [List.set_cons_zero]))
  (refine wpAnyH_ready (rs := [3]) (by kernel_rfl) (by simp) ?_; refine AllReadyH.cons rfl (fun K hK => ?_) AllReadyH.nil; go_simp; go_at_call 25; refine (HSM.out A4 c4 _ (E0.trans (ED.trans E4)) (rdy_pr (B := fun _ => False) O4.y)).mono ?_; rintro e w5 ⟨rfl, E5⟩; (try dsimp only); refine hK.out _ _ (ED.trans (E4.trans E5)) (fun hHeld => ?_); clear hK K; (try simp only [Act.put]); (try simp only [List.getElem_toArray]); (try simp only [List.getElem_cons_succ]); (try simp only [List.getElem_cons_zero]); (try simp only [List.setIfInBounds_toArray]); (try simp only [List.set_cons_succ]); (try simp only [List.set_cons_zero]))
  have EE := Lib.hid (E0.trans (ED.trans (E4.trans E5)))
  (refine wpAnyH_take (i := 4) (v := ?_) rfl (by kernel_rfl) (by kernel_rfl) (by kernel_rfl) (fun _ _ _ h => h) (Or.inl ⟨by rfl, ?_⟩) (by assumption) ?_; rotate_left; (focus (intro w' hSw; go_simp; try with_reducible rfl)); (try simp only [List.getElem_toArray]); (try simp only [List.getElem_cons_succ]); (try simp only [List.getElem_cons_zero]); (try simp only [Act.put]); (try simp only [List.setIfInBounds_toArray]); (try simp only [List.set_cons_succ]); (try simp only [List.set_cons_zero]))
  refine wpAnyH_done (by kernel_rfl) ?_ _
  go_wp2
  go_ret
  exact ⟨rfl, EE.out⟩
set_option maxRecDepth 100000 in
set_option maxHeartbeats 3000000 in
theorem deliverSettles_walk {A : Nat → Prop} (Ad : Option Addr) (c : Nat) (l : List Pr) (nx : Int) (w : World) (h : RdY Rp A w (.slice Ad l.length c) l) (hwf : WfL l) :
    Calls Tryz.prog 3 #[tv Ad l.length c nx] w fun e w' => e = .returned (.bool true) ∧ Ext w w' := by
  have HWF := Lib.hid hwf
  have hb := hwf.good
  clear hwf
  have hrf : ∀ w', Ext w w' → l.length ≤ 40 → _ := fun w' (E : Ext w w') (h40 : l.length ≤ 40) => ref_any (A := fun _ => False) Ad c l nx w' ((rdy_pr (B := fun _ => False) h).ext E) (by omega)
  have HRF := Lib.hid hrf
  clear hrf
  have H := Lib.hid (rdy_pr (B := fun _ => False) h)
  have HB := Lib.hid hb
  obtain ⟨N, hN⟩ : ∃ N, l.length = N := ⟨_, rfl⟩
  have HN := Lib.hid hN
  obtain ⟨W, hW⟩ : ∃ W, W = w.alloc (.cells #[.slice Ad N c, .int .i64 nx] 24) := ⟨_, rfl⟩
  have hbox := Lib.hid (show Blk W w.heap.size 24 #[.slice Ad N c, .int .i64 nx] by rw [hW]; exact Blk.new w _ _)
  have E0 : Ext w W := by rw [hW]; exact (Ext.refl _).alloc _
  have HW := Lib.hid hW
  have HGR := Lib.hid fun w' => great_any Ad c l nx w'
  have HTO := Lib.hid fun w' (E : Ext w w') (h40 : l.length ≤ 40) => tob_any (A := fun _ => False) Ad c l nx w' (H.out.ext E) (by omega)
  rw [hN] at HGR HTO ⊢
  clear h hb hW hN
  go_enter Tryz.func3, Tryz.ntmps3
  go_wp2_with fail
  rw [← HW.out]
  refine (alive_any W).mono ?_
  rintro e w1 ⟨rfl, E1⟩
  have E01 := E0.trans E1
  have kb := (hbox.out.ext E1).two
  go_wp2_with fail
  refine (HGR.out w1).mono ?_
  rintro e w2 ⟨rfl, E2⟩
  have E12 := E1.trans E2
  have E02 := E01.trans E2
  have kb := (hbox.out.ext E12).two
  by_cases h40 : 40 < N
  · have HD := Lib.hid (decide_eq_true h40)
    rw [HD.out]
    clear h40
    go_wp2
    go_ret
    exact ⟨rfl, E02⟩
  rw [decide_eq_false h40]
  have HNL := Lib.hid (show N ≤ 40 by omega)
  clear h40 HGR E1 E2 E01
  rw [HN.out] at HRF
  go_wp2_with fail
  refine (HTO.out w2 E02 HNL.out).mono ?_
  rintro e w3 ⟨A3, c3, rfl, O3, E3⟩
  have E03 := E02.trans E3
  have E13 := E12.trans E3
  have hst := settle_any (A := fun _ => False) A3 c3 l nx w3 (by rw [HN.out]; exact rdy_pr (B := fun _ => False) O3.y) (by have := HNL.out; have := HN.out; omega) HB.out
  unfold SettPost at hst
  rw [HN.out] at hst
  have HST := Lib.hid hst
  have O3 := Lib.hid (O3.lower E02.size)
  clear hst kb E3 E02 E12 HTO
  go_wp2_with fail
  refine HST.out.mono ?_
  rintro e w4 ⟨l2, A4, c4, S4, rfl, T4, E4⟩
  have O4 := own_tabN T4 (by rw [HN.out]; exact O3.out) E4 E03.size
  have S4 := Lib.hid S4
  have hle := S4.out.sub.length_le
  rw [List.length_map, List.length_map, HN.out] at hle
  obtain ⟨N2, hN2⟩ : ∃ N2, l2.length = N2 := ⟨_, rfl⟩
  rw [hN2] at O4 hle ⊢
  have HN2 := Lib.hid hN2
  have HN2L := Lib.hid (show N2 ≤ 40 by have := HNL.out; omega)
  have HW2 := Lib.hid (S4.out.wf HWF.out)
  clear T4 HST hN2
  go_upto_region 6 with fail
  obtain ⟨n3, hn3⟩ : ∃ n3, w4.heap.size = n3 := ⟨_, rfl⟩
  rw [hn3]
  have B3 := Lib.hid (Blk.at_ (w := w4) 29 #[.slice A4 N2 c4, .int .i64 nx] hn3)
  have O5 := Lib.hid (O4.alloc (.cells #[.slice A4 N2 c4, .int .i64 nx] 29))
  have E05 := Lib.hid ((E03.trans E4).alloc (.cells #[.slice A4 N2 c4, .int .i64 nx] 29))
  have hbox5 := Lib.hid (hbox.out.ext ((E13.trans E4).alloc (.cells #[.slice A4 N2 c4, .int .i64 nx] 29)))
  clear O4 E4 E03 E13 O3 hn3 hbox HW E0
  generalize w4.alloc _ = W5 at *
  have HRS := Lib.hid fun A' c' w' (h : RdY Rp (fun _ => False) w' (.slice A' l.length c') l) => rsettle_any (A := fun _ => False) A' c' l nx w' h (by have := HNL.out; have := HN.out; omega) HB.out
  unfold RSettPost at HRS
  have HSM := Lib.hid fun A' B' c' d' w' (h : RdY Rp (fun _ => False) w' (.slice A' l2.length c') l2) (g : RdY Rp (fun _ => False) w' (.slice B' l2.length d') l2) => lsame_any (A := fun _ => False) (B := fun _ => False) A' B' c' d' l2 nx w' h g HW2.out (by have := HN2L.out; have := HN2.out; omega)
  have HONE := Lib.hid fun l7 (S7 : Sett nx l l7) => S7.one S4.out
  rw [HN.out] at HRS
  rw [HN2.out] at HSM
  refine wp_region_held_drew (S := fun w' => Ext W5 w') (by kernel_rfl) (Ext.drew (Ext.refl _)) (fun hHeld => ?_)
  (refine wpAnyH_take (i := 0) (v := ?_) rfl (by kernel_rfl) (by kernel_rfl) (by kernel_rfl) (fun _ _ _ h => h) (Or.inl ⟨by rfl, ?_⟩) (by assumption) ?_; rotate_left; (focus (intro w' hSw; have kc := (B3.out.ext hSw).two; go_simp; try with_reducible rfl)); (try simp only [List.getElem_toArray]); (try simp only [List.getElem_cons_succ]); (try simp only [List.getElem_cons_zero]); (try simp only [Act.put]); (try simp only [List.setIfInBounds_toArray]); (try simp only [List.set_cons_succ]); (try simp only [List.set_cons_zero]))
  (refine wpAnyH_take (i := 1) (v := ?_) rfl (by kernel_rfl) (by kernel_rfl) (by kernel_rfl) (fun _ _ _ h => h) (Or.inl ⟨by rfl, ?_⟩) (by assumption) ?_; rotate_left; (focus (intro w' hSw; have kc := (hbox5.out.ext hSw).two; go_simp; try with_reducible rfl)); (try simp only [List.getElem_toArray]); (try simp only [List.getElem_cons_succ]); (try simp only [List.getElem_cons_zero]); (try simp only [Act.put]); (try simp only [List.setIfInBounds_toArray]); (try simp only [List.set_cons_succ]); (try simp only [List.set_cons_zero]))
  obtain ⟨D, hD⟩ : ∃ D, D = W5.drew := ⟨_, rfl⟩
  have ED : Ext W5 D := by rw [hD]; exact (Ext.refl _).drew
  rw [← hD]
  clear hD
  (refine wpAnyH_ready (rs := [2]) (by kernel_rfl) (by simp) ?_; refine AllReadyH.cons rfl (fun K hK => ?_) AllReadyH.nil; go_simp; go_at_call 10; refine (HRF.out _ (E05.out.trans ED) HNL.out).mono ?_; rintro e w6 ⟨A6, c6, rfl, O6, E6⟩; (try dsimp only); refine hK.out _ _ (ED.trans E6) (fun hHeld => ?_); clear hK K; (try simp only [Act.put]); (try simp only [List.getElem_toArray]); (try simp only [List.getElem_cons_succ]); (try simp only [List.getElem_cons_zero]); (try simp only [List.setIfInBounds_toArray]); (try simp only [List.set_cons_succ]); (try simp only [List.set_cons_zero]))
  have E56 := ED.trans E6
  (refine wpAnyH_ready (rs := [3]) (by kernel_rfl) (by simp) ?_; refine AllReadyH.cons rfl (fun K hK => ?_) AllReadyH.nil; go_simp; go_at_call 9; refine (HRS.out A6 c6 _ (rdy_pr (B := fun _ => False) O6.y)).mono ?_; rintro e w7 ⟨l7, A7, c7, S7, rfl, T7, E7⟩; (try dsimp only); refine hK.out _ _ (E56.trans E7) (fun hHeld => ?_); clear hK K; (try simp only [Act.put]); (try simp only [List.getElem_toArray]); (try simp only [List.getElem_cons_succ]); (try simp only [List.getElem_cons_zero]); (try simp only [List.setIfInBounds_toArray]); (try simp only [List.set_cons_succ]); (try simp only [List.set_cons_zero]))
  have E57 := E56.trans E7
  obtain rfl : l7 = l2 := HONE.out l7 S7
  have O7 := own_tabR T7 (by rw [HN.out]; exact O6) E7 (E6.size)
  rw [HN2.out] at O7 ⊢
  (refine wpAnyH_ready (rs := [4]) (by kernel_rfl) (by simp) ?_; refine AllReadyH.cons rfl (fun K hK => ?_) AllReadyH.nil; go_simp; go_at_call 8; refine (HSM.out A4 A7 c4 c7 _ (rdy_pr (B := fun _ => False) (O5.out.ext E57).y) (rdy_pr (B := fun _ => False) O7.y)).mono ?_; rintro e w8 ⟨rfl, E8⟩; (try dsimp only); refine hK.out _ _ (E57.trans E8) (fun hHeld => ?_); clear hK K; (try simp only [Act.put]); (try simp only [List.getElem_toArray]); (try simp only [List.getElem_cons_succ]); (try simp only [List.getElem_cons_zero]); (try simp only [List.setIfInBounds_toArray]); (try simp only [List.set_cons_succ]); (try simp only [List.set_cons_zero]))
  have E58 := E57.trans E8
  (refine wpAnyH_take (i := 5) (v := ?_) rfl (by kernel_rfl) (by kernel_rfl) (by kernel_rfl) (fun _ _ _ h => h) (Or.inl ⟨by rfl, ?_⟩) (by assumption) ?_; rotate_left; (focus (intro w' hSw; go_simp; try with_reducible rfl)); (try simp only [List.getElem_toArray]); (try simp only [List.getElem_cons_succ]); (try simp only [List.getElem_cons_zero]); (try simp only [Act.put]); (try simp only [List.setIfInBounds_toArray]); (try simp only [List.set_cons_succ]); (try simp only [List.set_cons_zero]))
  refine wpAnyH_done (by kernel_rfl) ?_ _
  have O8 := Lib.hid (O5.out.ext E58)
  have B8 := Lib.hid (B3.out.ext E58)
  have E08 := Lib.hid (E05.out.trans E58)
  have hbox8 := Lib.hid (hbox5.out.ext E58)
  have kb := hbox8.out.two
  clear O7 T7 E8 E57 E7 E56 O6 E6 ED HRS HONE O5 B3 E05 hbox5 E58 hHeld S7
  go_wp2_with fail
  refine (HRF.out _ E08.out HNL.out).mono ?_
  rintro e w9 ⟨A9, c9, rfl, O9, E9⟩
  have hri := rright_any (A := fun _ => False) A9 c9 l nx w9 (by rw [HN.out]; exact rdy_pr (B := fun _ => False) O9.y)
  rw [HN.out] at hri
  have HRI := Lib.hid hri
  clear hri kb O9
  go_wp2_with fail
  refine HRI.out.mono ?_
  rintro e w10 ⟨rfl, E10⟩
  have E910 := E9.trans E10
  have O10 := Lib.hid (O8.out.ext E910)
  have B10 := Lib.hid (B8.out.ext E910)
  have E010 := Lib.hid (E08.out.trans E910)
  clear HRI E9 E10 E910 O8 B8 E08 hbox8 HRF
  cases hr : rightL l nx
  · have HE := E010
    clear hr
    go_wp2
    go_ret
    exact ⟨rfl, HE.out⟩
  have HID := Lib.hid (S4.out.idle hr)
  have HAG := Lib.hid fun l7 (S7 : Sett nx l7 l) => S7
  have HAS := Lib.hid fun l3 (S3 : Sett nx l7 l3) => S4.out.again_same S3
  have HG2 := Lib.hid HW2.out.good
  have kb := B10.out.two
  clear hr HAG
  go_wp2
  clear kb
  have hn2 := HN2L.out
  go_loopw [28] (fun i wr => ∃ m : Nat, m ≤ N2 ∧ i = .int .i64 m ∧ Hid (Ext w10 wr)) (fun i _ => N2 - (intOf i).toNat)
  case atStart => exact ⟨0, Nat.zero_le _, rfl, Lib.hid (Ext.refl _)⟩
  case round =>
    obtain ⟨m, hm, rfl, hE⟩ := hrel
    by_cases hmn : m < N2
    · obtain ⟨bk, off, p, rfl, hd, hok, hcell⟩ := pr_at (O10.out.ext hE.out).y hmn
      have hmem := List.mem_of_getElem? hd.out
      have HPI := Lib.hid fun w' => Sig.pick_any p.pending p.mask w' (HG2.out.1 p hmem) (HG2.out.2 p hmem)
      have hid := HID.out p hmem
      obtain ⟨sg, is, hpk⟩ : ∃ sg is, Sig.pickL p.pending p.mask = (sg, is) := ⟨_, _, rfl⟩
      rw [hpk] at HPI hid
      have HIDP := Lib.hid hid
      obtain ⟨n5, hn5⟩ : ∃ n5, wr.heap.size = n5 := ⟨_, rfl⟩
      clear hd hmem hid hpk
      go_upto_region 13 with (first
        | (refine wpList_load_mid rfl 42 _ rfl bk (off + m * 43) rfl p.cells _ hcell.out Tryz.underlying42 rfl (i43' hok) ?_)
        | ((refine wpList_store_A rfl 42 _ _ rfl (n5) _ rfl rfl 42 _ (zero_row wr _ hn5) (by rw [List.size_toArray]; exact i43' hok) (Eq.trans (b := 43) (by rfl) (Eq.symm (show (p).cells.toArray.size = 43 from Pr.size hok))) (Pr.one hok) ?_); intro w11 H11 E11; have E11 : Ext wr w11 := E11 wr.heap.size wr ((Ext.refl wr).alloc _) (by omega); have BP := Lib.hid H11))
      have pc7 := (prAt_blk hok BP.out).c7
      have pc8 := (prAt_blk hok BP.out).c8
      rw [Nat.zero_add] at pc7 pc8
      have hE1 := Lib.hid (hE.out.trans E11)
      clear hcell hn5 E11 hE
      go_wp2_with fail
      refine (HPI.out _).mono ?_
      rintro e w12 ⟨rfl, E12⟩
      have pc4 := (prAt_blk hok (BP.out.ext E12)).c4
      rw [Nat.zero_add] at pc4
      have hE2 := Lib.hid (hE1.out.trans E12)
      clear HPI pc7 pc8 hE1 E12 BP
      cases is
      · go_wp2
        go_roundw
        case rel => exact ⟨m + 1, by omega, by go_num, hE2⟩
        case measure => simp [intOf]; omega
      · have hsb : (p.state == 1) = false := by
          by_cases hs : p.state = 1
          · exact absurd (HIDP.out hs) (by simp)
          · simpa using hs
        go_wp2
        go_roundw
        case rel => exact ⟨m + 1, by omega, by go_num, hE2⟩
        case measure => simp [intOf]; omega
    · obtain rfl : m = N2 := by omega
      have B13 := Lib.hid (B10.out.ext hE.out)
      have O13 := Lib.hid (O10.out.ext hE.out)
      have E013 := Lib.hid (E010.out.trans hE.out)
      have HSE := Lib.hid fun w' (h : RdY Rp (fun _ => False) w' (.slice A4 l7.length c4) l7) => settle_any (A := fun _ => False) A4 c4 l7 nx w' h (by have := HN2.out; omega) HG2.out
      unfold SettPost at HSE
      have HFR := Lib.hid fun w' (h : RdY Rp (fun _ => False) w' (.slice A4 l7.length c4) l7) => from_any (A := fun _ => False) A4 c4 l7 nx w' h (by have := HN2.out; omega)
      rw [HN2.out] at HSE HFR
      obtain ⟨wv, rfl⟩ : ∃ wv, wv = wr := ⟨_, rfl⟩
      clear hE B10 O10 E010
      go_upto_region 17 with fail
      refine wp_region_held_drew (S := fun w' => Ext wv w') (by kernel_rfl) (Ext.drew (Ext.refl _)) (fun hHeld => ?_)
      (refine wpAnyH_take (i := 0) (v := ?_) rfl (by kernel_rfl) (by kernel_rfl) (by kernel_rfl) (fun _ _ _ h => h) (Or.inl ⟨by rfl, ?_⟩) (by assumption) ?_; rotate_left; (focus (intro w' hSw; have kc := (B13.out.ext hSw).two; go_simp; try with_reducible rfl)); (try simp only [List.getElem_toArray]); (try simp only [List.getElem_cons_succ]); (try simp only [List.getElem_cons_zero]); (try simp only [Act.put]); (try simp only [List.setIfInBounds_toArray]); (try simp only [List.set_cons_succ]); (try simp only [List.set_cons_zero]))
      (refine wpAnyH_take (i := 2) (v := ?_) rfl (by kernel_rfl) (by kernel_rfl) (by kernel_rfl) (fun _ _ _ h => h) (Or.inl ⟨by rfl, ?_⟩) (by assumption) ?_; rotate_left; (focus (intro w' hSw; have kc := (B13.out.ext hSw).two; go_simp; try with_reducible rfl)); (try simp only [List.getElem_toArray]); (try simp only [List.getElem_cons_succ]); (try simp only [List.getElem_cons_zero]); (try simp only [Act.put]); (try simp only [List.setIfInBounds_toArray]); (try simp only [List.set_cons_succ]); (try simp only [List.set_cons_zero]))
      obtain ⟨D, hD⟩ : ∃ D, D = wv.drew := ⟨_, rfl⟩
      have ED : Ext wv D := by rw [hD]; exact (Ext.refl _).drew
      rw [← hD]
      clear hD
      (refine wpAnyH_ready (rs := [1]) (by kernel_rfl) (by simp) ?_; refine AllReadyH.cons rfl (fun K hK => ?_) AllReadyH.nil; go_simp; go_at_call 6; refine (HSE.out _ (rdy_pr (B := fun _ => False) (O13.out.ext ED).y)).mono ?_; rintro e w14 ⟨l8, A14, c14, S14, rfl, T14, E14⟩; (try dsimp only); refine hK.out _ _ (ED.trans E14) (fun hHeld => ?_); clear hK K; (try simp only [Act.put]); (try simp only [List.getElem_toArray]); (try simp only [List.getElem_cons_succ]); (try simp only [List.getElem_cons_zero]); (try simp only [List.setIfInBounds_toArray]); (try simp only [List.set_cons_succ]); (try simp only [List.set_cons_zero]))
      obtain rfl : l8 = l7 := HAS.out l8 S14
      have O14 := own_tabN T14 (by rw [HN2.out]; exact O13.out.ext ED) E14 (by have := E013.out.size; have := ED.size; omega)
      rw [HN2.out] at O14 ⊢
      have E1 := ED.trans E14
      (refine wpAnyH_ready (rs := [3]) (by kernel_rfl) (by simp) ?_; refine AllReadyH.cons rfl (fun K hK => ?_) AllReadyH.nil; go_simp; go_at_call 13; refine (HFR.out _ (rdy_pr (B := fun _ => False) (O13.out.ext E1).y)).mono ?_; rintro e w15 ⟨A15, c15, rfl, O15, E15⟩; (try dsimp only); refine hK.out _ _ (E1.trans E15) (fun hHeld => ?_); clear hK K; (try simp only [Act.put]); (try simp only [List.getElem_toArray]); (try simp only [List.getElem_cons_succ]); (try simp only [List.getElem_cons_zero]); (try simp only [List.setIfInBounds_toArray]); (try simp only [List.set_cons_succ]); (try simp only [List.set_cons_zero]))
      have E2 := E1.trans E15
      (refine wpAnyH_ready (rs := [4]) (by kernel_rfl) (by simp) ?_; refine AllReadyH.cons rfl (fun K hK => ?_) AllReadyH.nil; go_simp; go_at_call 8; refine (HSM.out A14 A15 c14 c15 _ (rdy_pr (B := fun _ => False) (O14.ext E15).y) (rdy_pr (B := fun _ => False) O15.y)).mono ?_; rintro e w16 ⟨rfl, E16⟩; (try dsimp only); refine hK.out _ _ (E2.trans E16) (fun hHeld => ?_); clear hK K; (try simp only [Act.put]); (try simp only [List.getElem_toArray]); (try simp only [List.getElem_cons_succ]); (try simp only [List.getElem_cons_zero]); (try simp only [List.setIfInBounds_toArray]); (try simp only [List.set_cons_succ]); (try simp only [List.set_cons_zero]))
      have EE := Lib.hid (E013.out.trans (E2.trans E16))
      (refine wpAnyH_take (i := 5) (v := ?_) rfl (by kernel_rfl) (by kernel_rfl) (by kernel_rfl) (fun _ _ _ h => h) (Or.inl ⟨by rfl, ?_⟩) (by assumption) ?_; rotate_left; (focus (intro w' hSw; go_simp; try with_reducible rfl)); (try simp only [List.getElem_toArray]); (try simp only [List.getElem_cons_succ]); (try simp only [List.getElem_cons_zero]); (try simp only [Act.put]); (try simp only [List.setIfInBounds_toArray]); (try simp only [List.set_cons_succ]); (try simp only [List.set_cons_zero]))
      refine wpAnyH_done (by kernel_rfl) ?_ _
      go_wp2
      go_ret
      exact ⟨rfl, EE.out⟩
end Go.Proofs.YteljobleojhgmaaGreat
