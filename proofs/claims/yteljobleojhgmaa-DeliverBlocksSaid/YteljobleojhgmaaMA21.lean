/- DeliverBlocks walked: the law answers true for every argument. Condition: pending signals and masks have 64 bits. -/
import Derived.Test.YteljobleojhgmaaLA21
namespace Go.Proofs.Yteljobleojhgmaa
open Go.RowKit Go.Kb

set_option maxRecDepth 100000 in
set_option maxHeartbeats 3000000 in
theorem deliverBlocks_walk {A : Nat → Prop} (Ad : Option Addr) (c : Nat) (l : List Pr) (nx pid sig : Int) (w : World) (h : RdY Rp A w (.slice Ad l.length c) l) (hb : Good l) :
    Calls Try.prog 4 #[tv Ad l.length c nx, .int .i64 pid, .int .i64 sig] w fun e w' => e = .returned (.bool true) ∧ Ext w w' := by
  have H := Lib.hid (rdy_pr (B := fun _ => False) h)
  have HB := Lib.hid hb
  obtain ⟨N, hN⟩ : ∃ N, l.length = N := ⟨_, rfl⟩
  have HN := Lib.hid hN
  obtain ⟨W, hW⟩ : ∃ W, W = w.alloc (.cells #[.slice Ad N c, .int .i64 nx] 24) := ⟨_, rfl⟩
  have hbox := Lib.hid (show Blk W w.heap.size 24 #[.slice Ad N c, .int .i64 nx] by rw [hW]; exact Blk.new w _ _)
  have E0 : Ext w W := by rw [hW]; exact (Ext.refl _).alloc _
  have HW := Lib.hid hW
  have HGR := Lib.hid fun w' => great_any Ad c l nx w'
  have HTO := Lib.hid fun w' (E : Ext w w') (h40 : l.length ≤ 40) => tob_any (A := fun _ => False) Ad c l nx w' (H.out.ext E) (by omega)
  rw [hN] at HGR HTO ⊢
  clear h hb hW hN
  go_enter Try.func4, Try.ntmps4
  go_wp2_with fail
  rw [← HW.out]
  refine (alive_any W).mono ?_
  rintro e w1 ⟨rfl, E1⟩
  have E01 := E0.trans E1
  have kb := (hbox.out.ext E1).two
  go_wp2_with fail
  refine (HGR.out w1).mono ?_
  rintro e w2 ⟨rfl, E2⟩
  have E12 := E1.trans E2
  have E02 := E01.trans E2
  have kb := (hbox.out.ext E12).two
  by_cases h40 : 40 < N
  · have HD := Lib.hid (decide_eq_true h40)
    rw [HD.out]
    clear h40
    go_wp2
    go_ret
    exact ⟨rfl, E02⟩
  rw [decide_eq_false h40]
  have HNL := Lib.hid (show N ≤ 40 by omega)
  clear h40 HGR E1 E2 E01
  by_cases h18 : sig = 18
  · subst h18
    go_wp2
    go_ret
    exact ⟨rfl, E02⟩
  by_cases h20 : sig = 20
  · subst h20
    go_wp2
    go_ret
    exact ⟨rfl, E02⟩
  by_cases h21 : sig = 21
  · subst h21
    go_wp2
    go_ret
    exact ⟨rfl, E02⟩
  by_cases h22 : sig = 22
  · subst h22
    go_wp2
    go_ret
    exact ⟨rfl, E02⟩
  have b18 : (sig == 18) = false := by simpa using h18
  have b20 : (sig == 20) = false := by simpa using h20
  have b21 : (sig == 21) = false := by simpa using h21
  have b22 : (sig == 22) = false := by simpa using h22
  have HNS := Lib.hid (show sig ≠ 18 ∧ sig ≠ 20 ∧ sig ≠ 21 ∧ sig ≠ 22 from ⟨h18, h20, h21, h22⟩)
  go_wp2_with fail
  refine (HTO.out w2 E02 HNL.out).mono ?_
  rintro e w3 ⟨A3, c3, rfl, O3, E3⟩
  clear h18 h20 h21 h22 b18 b20 b21 b22
  have E03 := E02.trans E3
  have E13 := E12.trans E3
  have hst := sent_to (A := fun _ => False) A3 c3 l nx pid sig w3 (by rw [HN.out]; exact rdy_pr (B := fun _ => False) O3.y) HB.out.1
  unfold SentPost at hst
  rw [HN.out] at hst
  have HST := Lib.hid hst
  have HKP := Lib.hid (blocks_plain (l := l) (nx := nx) (pid := pid) HB.out HNS.out)
  have HL1 := Lib.hid (show (sentL l nx pid sig).1.length = N by rw [sentL_len]; exact HN.out)
  have HG1 := Lib.hid (show Good (sentL l nx pid sig).1 from HB.out.sent)
  obtain ⟨l1, hl1⟩ : ∃ l1, (sentL l nx pid sig).1 = l1 := ⟨_, rfl⟩
  obtain ⟨er, her⟩ : ∃ er, (sentL l nx pid sig).2 = er := ⟨_, rfl⟩
  have O3 := Lib.hid (O3.lower E02.size)
  rw [hl1, her] at HST
  rw [hl1, her] at HKP
  rw [hl1] at HL1 HG1
  clear hst hl1 her kb E3 E02 E12
  go_wp2_with fail
  refine HST.out.mono ?_
  rintro e w4 ⟨A4, c4, rfl, T4, E4⟩
  have O4 := own_tabN (tabN_of T4 (by rw [HL1.out, HN.out])) (by rw [HN.out]; exact O3.out) E4 E03.size
  rw [HL1.out] at O4
  go_upto_region 6 with fail
  obtain ⟨n5, hn5⟩ : ∃ n5, w4.heap.size = n5 := ⟨_, rfl⟩
  rw [hn5]
  have B5 := Lib.hid (Blk.at_ (w := w4) 29 #[.slice A4 N c4, .int .i64 nx] hn5)
  have O5 := Lib.hid (O4.alloc (.cells #[.slice A4 N c4, .int .i64 nx] 29))
  have E05 := Lib.hid ((E03.trans E4).alloc (.cells #[.slice A4 N c4, .int .i64 nx] 29))
  have HN5 := Lib.hid (show w.heap.size ≤ n5 by rw [← hn5]; exact (E03.trans E4).size)
  clear T4 O4 E4 E03 E13 O3 hn5 HST hbox HW E0 HTO
  generalize w4.alloc _ = W5 at *
  by_cases her : er = 0
  case neg =>
    have hb1 : (er != 0) = true := by simpa using her
    clear her HKP
    go_wp2
    go_ret
    exact ⟨rfl, E05.out⟩
  subst her
  obtain ⟨p1, hg1, hpm, htk⟩ := HKP.out rfl
  have hget := get_any (A := fun _ => False) A4 c4 l1 nx pid W5 (by rw [HL1.out]; exact rdy_pr (B := fun _ => False) O5.out.y)
  rw [HL1.out, hg1] at hget
  have HGET := Lib.hid hget
  have hpok : p1.ok := by
    have := getL_ok (l := l1) (nx := nx) (pid := pid) (RdY.oks O5.out.y)
    rw [hg1] at this; exact this
  have HTK := Lib.hid htk
  have kb := B5.out.two
  clear hget htk hg1 HKP
  go_wp2_with fail
  refine HGET.out.mono ?_
  rintro e w6 ⟨rfl, E6⟩
  obtain ⟨n7, hn7⟩ : ∃ n7, w6.heap.size = n7 := ⟨_, rfl⟩
  go_upto_region 9 with ((refine wpList_store_A rfl 40 _ _ rfl (n7) _ rfl rfl 40 _ (zero_row w6 n7 hn7) (by rw [List.size_toArray]; exact i43' hpok) (Eq.trans (b := 43) (by rfl) (Eq.symm (show (p1).cells.toArray.size = 43 from Pr.size hpok))) (Pr.one hpok) ?_); intro W7 H7 F7; have E67 : Ext w6 W7 := F7 w6.heap.size w6 ((Ext.refl w6).alloc _) (by omega); have P7 := Lib.hid H7; clear F7 H7)
  have E57 := E6.trans E67
  have B7 := Lib.hid (B5.out.ext E57)
  have O7 := Lib.hid (O5.out.ext E57)
  have E07 := Lib.hid (E05.out.trans E57)
  have pc8 := (prAt_blk hpok P7.out).c8
  rw [Nat.zero_add] at pc8
  have HBK := Lib.hid fun w' => Sig.block_any p1.mask w' hpm
  have HHB := Lib.hid fun w' => Sig.has_any (Sig.blockL p1.mask) sig w' (Sig.blockL_bd _)
  generalize Sig.blockL p1.mask = bm at HBK HHB HTK
  clear hn7 E6 E67 E57 B5 O5 E05 HGET kb hpm
  go_wp2_with fail
  refine (HBK.out _).mono ?_
  rintro e w8 ⟨rfl, E8⟩
  cases hbl : Sig.hasL bm sig
  · rw [hbl] at HHB
    clear hbl HTK
    go_wp2_with fail
    refine (HHB.out _).mono ?_
    rintro e w9 ⟨rfl, E9⟩
    have EE := Lib.hid (E07.out.trans (E8.trans E9))
    go_wp2
    go_ret
    exact ⟨rfl, EE.out⟩
  have HTK := Lib.hid (HTK.out hbl)
  rw [hbl] at HHB
  clear hbl
  go_wp2_with fail
  refine (HHB.out _).mono ?_
  rintro e w9 ⟨rfl, E9⟩
  have E79 := E8.trans E9
  have B9 := Lib.hid (B7.out.ext E79)
  have O9 := Lib.hid (O7.out.ext E79)
  have E09 := Lib.hid (E07.out.trans E79)
  have kb := B9.out.two
  have hse := settle_any (A := fun _ => False) A4 c4 l1 nx w9 (by rw [HL1.out]; exact rdy_pr (B := fun _ => False) O9.out.y) (by have := HL1.out; have := HNL.out; omega) HG1.out
  unfold SettPost at hse
  rw [HL1.out] at hse
  have HSE := Lib.hid hse
  clear hse B7 O7 E07 E8 E9 E79 HHB HBK pc8 P7
  go_wp2_with fail
  refine HSE.out.mono ?_
  rintro e w10 ⟨l2, A8, c8, hset, rfl, T8, E10⟩
  obtain ⟨hgood, hfin⟩ := HTK.out l2 hset
  obtain ⟨N2, hN2⟩ : ∃ N2, l2.length = N2 := ⟨_, rfl⟩
  have HN2 := Lib.hid hN2
  have O10 := own_tabN T8 (by rw [HL1.out]; exact O9.out) E10 E09.out.size
  rw [hN2] at O10 ⊢
  have B10 := B9.out.ext E10
  have M8 : Mod (fun k => k = n5) w10 _ := ((Mod.refl _ w10).set1 (.slice A8 N2 c8) (o := 0)).set1 (.int .i64 nx) (o := 1)
  have O11 := Lib.hid (O10.mod M8 (fun j hj he => own_blk_ne O10.choose_spec.1 B10 (by decide) (by rw [← he]; exact hj)) (fun _ _ hk _ => hk))
  have B11 := Lib.hid (B10.put2 (.slice A8 N2 c8) (.int .i64 nx))
  have E011 := Lib.hid (Mod.toExt (E09.out.trans E10) M8 (by intro k hk he; have := HN5.out; omega))
  have kb := B10.two
  have HGD := Lib.hid hgood
  have HFN := Lib.hid hfin
  clear HSE T8 O10 M8 E09 O9 B9 hset hgood hfin hN2 HTK
  go_upto_region 12 with fail
  clear B10 E10
  generalize (w10.setCell _ _).setCell _ _ = W11 at *
  have kb := B11.out.two
  obtain ⟨q, th, hq⟩ : ∃ q th, getL l2 nx pid = (q, th) := ⟨_, _, rfl⟩
  have hget := get_any (A := fun _ => False) A8 c8 l2 nx pid W11 (by rw [HN2.out]; exact rdy_pr (B := fun _ => False) O11.out.y)
  rw [HN2.out, hq] at hget
  have HGET := Lib.hid hget
  have hqok : q.ok := by
    have := getL_ok (l := l2) (nx := nx) (pid := pid) (RdY.oks O11.out.y)
    rw [hq] at this; exact this
  have HST3 := Lib.hid (show th = true → Sig.U64 q.pending ∧ (q.state = 3 ∨ Sig.hasL q.pending sig = true) from fun h1 => by
    have h2 := HFN.out (by rw [hq]; exact h1)
    have h3 := (get_mem (l := l2) (nx := nx) (pid := pid) (by rw [hq]; exact h1)).1
    rw [hq] at h2 h3
    exact ⟨HGD.out.1 q h3, h2⟩)
  clear hget hq HFN HGD
  go_wp2_with fail
  refine HGET.out.mono ?_
  rintro e w12 ⟨rfl, E12⟩
  obtain ⟨n11, hn11⟩ : ∃ n11, w12.heap.size = n11 := ⟨_, rfl⟩
  go_upto_region 13 with ((refine wpList_store_A rfl 40 _ _ rfl (n11) _ rfl rfl 40 _ (zero_row w12 n11 hn11) (by rw [List.size_toArray]; exact i43' hqok) (Eq.trans (b := 43) (by rfl) (Eq.symm (show (q).cells.toArray.size = 43 from Pr.size hqok))) (Pr.one hqok) ?_); intro W13 H13 F13; have E67 : Ext w12 W13 := F13 w12.heap.size w12 ((Ext.refl w12).alloc _) (by omega); have P13 := Lib.hid H13; clear F13 H13)
  have E013 := Lib.hid (E011.out.trans (E12.trans E67))
  clear hn11 E12 E67 HGET kb
  cases th
  · go_wp2
    go_ret
    exact ⟨rfl, E013.out⟩
  obtain ⟨hqb, hq3⟩ := HST3.out rfl
  have pc4 := (prAt_blk hqok P13.out).c4
  have pc7 := (prAt_blk hqok P13.out).c7
  rw [Nat.zero_add] at pc4 pc7
  by_cases hs3 : q.state = 3
  · have h3b : (q.state == 3) = true := by simpa using hs3
    clear hq3
    go_wp2
    go_ret
    exact ⟨rfl, E013.out⟩
  · have h3b : (q.state == 3) = false := by simpa using hs3
    have HH := Lib.hid fun w' => Sig.has_any q.pending sig w' hqb
    rw [hq3.resolve_left hs3] at HH
    clear hq3 hs3
    go_wp2_with fail
    refine (HH.out _).mono ?_
    rintro e w14 ⟨rfl, E14⟩
    have EE := Lib.hid (E013.out.trans E14)
    go_wp2
    go_ret
    exact ⟨rfl, EE.out⟩
end Go.Proofs.Yteljobleojhgmaa
