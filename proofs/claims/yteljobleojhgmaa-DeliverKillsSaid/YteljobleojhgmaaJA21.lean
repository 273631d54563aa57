/- DeliverKills walked: the law answers true for every argument. Condition: pending signals and masks have 64 bits. -/
import Derived.Test.YteljobleojhgmaaIA21
namespace Go.Proofs.Yteljobleojhgmaa
open Go.RowKit Go.Kb

set_option maxRecDepth 100000 in
set_option maxHeartbeats 3000000 in
theorem deliverKills_walk {A : Nat → Prop} (Ad : Option Addr) (c : Nat) (l : List Pr) (nx pid : Int) (w : World) (h : RdY Rp A w (.slice Ad l.length c) l) (hb : Good l) :
    Calls Try.prog 3 #[tv Ad l.length c nx, .int .i64 pid] w fun e w' => e = .returned (.bool true) ∧ Ext w w' := by
  have H := Lib.hid (rdy_pr (B := fun _ => False) h)
  have HB := Lib.hid hb
  obtain ⟨N, hN⟩ : ∃ N, l.length = N := ⟨_, rfl⟩
  have HN := Lib.hid hN
  obtain ⟨W, hW⟩ : ∃ W, W = w.alloc (.cells #[.slice Ad N c, .int .i64 nx] 24) := ⟨_, rfl⟩
  have hbox := Lib.hid (show Blk W w.heap.size 24 #[.slice Ad N c, .int .i64 nx] by rw [hW]; exact Blk.new w _ _)
  have E0 : Ext w W := by rw [hW]; exact (Ext.refl _).alloc _
  have HW := Lib.hid hW
  have HGR := Lib.hid fun w' => great_any Ad c l nx w'
  have HTO := Lib.hid fun w' (E : Ext w w') (h40 : l.length ≤ 40) => tob_any (A := fun _ => False) Ad c l nx w' (H.out.ext E) (by omega)
  rw [hN] at HGR HTO ⊢
  clear h hb hW hN
  go_enter Try.func3, Try.ntmps3
  go_wp2_with fail
  rw [← HW.out]
  refine (alive_any W).mono ?_
  rintro e w1 ⟨rfl, E1⟩
  have E01 := E0.trans E1
  have kb := (hbox.out.ext E1).two
  go_wp2_with fail
  refine (HGR.out w1).mono ?_
  rintro e w2 ⟨rfl, E2⟩
  have E12 := E1.trans E2
  have E02 := E01.trans E2
  have kb := (hbox.out.ext E12).two
  by_cases h40 : 40 < N
  · have HD := Lib.hid (decide_eq_true h40)
    rw [HD.out]
    clear h40
    go_wp2
    go_ret
    exact ⟨rfl, E02⟩
  rw [decide_eq_false h40]
  have HNL := Lib.hid (show N ≤ 40 by omega)
  clear h40 HGR E1 E2 E01
  go_wp2_with fail
  refine (HTO.out w2 E02 HNL.out).mono ?_
  rintro e w3 ⟨A3, c3, rfl, O3, E3⟩
  have E03 := E02.trans E3
  have E13 := E12.trans E3
  have hst := sent_to (A := fun _ => False) A3 c3 l nx pid 9 w3 (by rw [HN.out]; exact rdy_pr (B := fun _ => False) O3.y) HB.out.1
  unfold SentPost at hst
  rw [HN.out] at hst
  have HST := Lib.hid hst
  have HER := Lib.hid (sent_err (l := l) (nx := nx) (pid := pid) (s := 9) (by decide))
  have HKP := Lib.hid (kills_plain (l := l) (nx := nx) (pid := pid) HB.out.1)
  have HL1 := Lib.hid (show (sentL l nx pid 9).1.length = N by rw [sentL_len]; exact HN.out)
  have HG1 := Lib.hid (show ∀ p ∈ (sentL l nx pid 9).1, Sig.U64 p.pending from sentL_bd HB.out.1)
  have HM1 := Lib.hid (show ∀ p ∈ (sentL l nx pid 9).1, Sig.U64 p.mask from sentL_mask HB.out.2)
  obtain ⟨l1, hl1⟩ : ∃ l1, (sentL l nx pid 9).1 = l1 := ⟨_, rfl⟩
  obtain ⟨er, her⟩ : ∃ er, (sentL l nx pid 9).2 = er := ⟨_, rfl⟩
  have O3 := Lib.hid (O3.lower E02.size)
  rw [hl1, her] at HST
  rw [her] at HER
  rw [hl1, her] at HKP
  rw [hl1] at HL1 HG1 HM1
  clear hst hl1 her kb E3 E02 E12
  go_wp2_with fail
  refine HST.out.mono ?_
  rintro e w4 ⟨A4, c4, rfl, T4, E4⟩
  have O4 := own_tabN (tabN_of T4 (by rw [HL1.out, HN.out])) (by rw [HN.out]; exact O3.out) E4 E03.size
  rw [HL1.out] at O4
  go_upto_region 6 with fail
  obtain ⟨n5, hn5⟩ : ∃ n5, w4.heap.size = n5 := ⟨_, rfl⟩
  rw [hn5]
  have B5 := Lib.hid (Blk.at_ (w := w4) 29 #[.slice A4 N c4, .int .i64 nx] hn5)
  have O5 := Lib.hid (O4.alloc (.cells #[.slice A4 N c4, .int .i64 nx] 29))
  have E05 := Lib.hid ((E03.trans E4).alloc (.cells #[.slice A4 N c4, .int .i64 nx] 29))
  have hbox5 := Lib.hid (hbox.out.ext ((E13.trans E4).alloc (.cells #[.slice A4 N c4, .int .i64 nx] 29)))
  have HN5 := Lib.hid (show w.heap.size ≤ n5 by rw [← hn5]; exact (E03.trans E4).size)
  clear T4 O4 E4 E03 E13 O3 hn5 HST hbox HW E0
  generalize w4.alloc _ = W5 at *
  by_cases her : er = 0
  case neg =>
    have hb1 : (er != 0) = true := by simpa using her
    have HLV := Lib.hid (HER.out her)
    have kb := hbox5.out.two
    clear her HKP
    go_wp2_with fail
    refine (HTO.out W5 E05.out HNL.out).mono ?_
    rintro e w6 ⟨A6, c6, rfl, O6, E6⟩
    have hlv := live_any (A := fun _ => False) A6 c6 l nx pid w6 (by rw [HN.out]; exact rdy_pr (B := fun _ => False) O6.y)
    rw [HN.out, HLV.out] at hlv
    have HL := Lib.hid hlv
    have E06 := Lib.hid (E05.out.trans E6)
    clear hlv O6 kb E6
    go_wp2_with fail
    refine HL.out.mono ?_
    rintro e w7 ⟨rfl, E7⟩
    have EE := Lib.hid (E06.out.trans E7)
    go_wp2
    go_ret
    exact ⟨rfl, EE.out⟩
  subst her
  obtain ⟨p1, hg1, hne2, htk⟩ := HKP.out rfl
  have hget := get_any (A := fun _ => False) A4 c4 l1 nx pid W5 (by rw [HL1.out]; exact rdy_pr (B := fun _ => False) O5.out.y)
  rw [HL1.out, hg1] at hget
  have HGET := Lib.hid hget
  have hpok : p1.ok := by
    have := getL_ok (l := l1) (nx := nx) (pid := pid) (RdY.oks O5.out.y)
    rw [hg1] at this; exact this
  have HTK := Lib.hid htk
  have kb := B5.out.two
  clear hget htk hg1 HKP HER
  go_wp2_with fail
  refine HGET.out.mono ?_
  rintro e w6 ⟨rfl, E6⟩
  obtain ⟨n7, hn7⟩ : ∃ n7, w6.heap.size = n7 := ⟨_, rfl⟩
  go_upto_region 9 with ((refine wpList_store_A rfl 40 _ _ rfl (n7) _ rfl rfl 40 _ (zero_row w6 n7 hn7) (by rw [List.size_toArray]; exact i43' hpok) (Eq.trans (b := 43) (by rfl) (Eq.symm (show (p1).cells.toArray.size = 43 from Pr.size hpok))) (Pr.one hpok) ?_); intro W7 H7 F7; have E67 : Ext w6 W7 := F7 w6.heap.size w6 ((Ext.refl w6).alloc _) (by omega); have P7 := Lib.hid H7; clear F7 H7)
  have E57 := E6.trans E67
  have B7 := Lib.hid (B5.out.ext E57)
  have O7 := Lib.hid (O5.out.ext E57)
  have E07 := Lib.hid (E05.out.trans E57)
  have pc4 := (prAt_blk hpok P7.out).c4
  rw [Nat.zero_add] at pc4
  clear hn7 E6 E67 E57 B5 O5 E05 HGET kb hbox5
  by_cases hs1 : p1.state = 1
  case neg =>
    have h1b : (p1.state != 1) = true := by simpa using hs1
    have h2b : (p1.state != 2) = true := by simpa using hne2
    clear hs1 hne2 HTK
    go_wp2
    go_ret
    exact ⟨rfl, E07.out⟩
  obtain ⟨l2, htk, hlv2, hst2⟩ := HTK.out hs1
  have h1b : (p1.state != 1) = false := by simpa using hs1
  have htake := take_any (A := fun _ => False) A4 c4 l1 nx pid W7 (by rw [HL1.out]; exact rdy_pr (B := fun _ => False) O7.out.y) HG1.out HM1.out
  unfold TakePost at htake
  rw [htk, HL1.out] at htake
  obtain ⟨N2, hN2⟩ : ∃ N2, l2.length = N2 := ⟨_, rfl⟩
  have HN2 := Lib.hid hN2
  simp only [hN2] at htake
  have HTA := Lib.hid htake
  have HLV2 := Lib.hid hlv2
  have HST2 := Lib.hid hst2
  have kb := B7.out.two
  rw [hs1] at pc4
  clear hs1 hne2 HTK htake htk hlv2 hst2 hN2
  go_wp2_with fail
  refine HTA.out.mono ?_
  rintro e w8 ⟨A8, c8, rfl, T8, E8⟩
  have O8 := own_tabN T8 (by rw [HL1.out]; exact O7.out) E8 (Nat.le_trans E07.out.size (Nat.le_refl _))
  rw [HN2.out] at O8
  have B8 := B7.out.ext E8
  have M8 : Mod (fun k => k = n5) w8 _ := ((Mod.refl _ w8).set1 (.slice A8 N2 c8) (o := 0)).set1 (.int .i64 nx) (o := 1)
  have O9 := Lib.hid (O8.mod M8 (fun j hj he => own_blk_ne O8.choose_spec.1 B8 (by decide) (by rw [← he]; exact hj)) (fun _ _ hk _ => hk))
  have B9 := Lib.hid (B8.put2 (.slice A8 N2 c8) (.int .i64 nx))
  have E09 := Lib.hid (Mod.toExt (E07.out.trans E8) M8 (by intro k hk he; have := HN5.out; omega))
  have kb := B8.two
  clear HTA T8 O8 M8 E07 O7 B7 pc4
  go_upto_region 12 with fail
  clear B8 E8
  generalize (w8.setCell _ _).setCell _ _ = W9 at *
  have kb := B9.out.two
  obtain ⟨q, th, hq⟩ : ∃ q th, getL l2 nx pid = (q, th) := ⟨_, _, rfl⟩
  have hget := get_any (A := fun _ => False) A8 c8 l2 nx pid W9 (by rw [HN2.out]; exact rdy_pr (B := fun _ => False) O9.out.y)
  rw [HN2.out, hq] at hget
  have HGET := Lib.hid hget
  have hqok : q.ok := by
    have := getL_ok (l := l2) (nx := nx) (pid := pid) (RdY.oks O9.out.y)
    rw [hq] at this; exact this
  have HST3 := Lib.hid (show th = true → q.status = 1009 from fun h1 => by
    have := HST2.out (by rw [hq]; exact h1)
    rw [hq] at this; exact this)
  clear hget hq HST2
  go_wp2_with fail
  refine HGET.out.mono ?_
  rintro e w10 ⟨rfl, E10⟩
  obtain ⟨n11, hn11⟩ : ∃ n11, w10.heap.size = n11 := ⟨_, rfl⟩
  go_upto_region 13 with ((refine wpList_store_A rfl 40 _ _ rfl (n11) _ rfl rfl 40 _ (zero_row w10 n11 hn11) (by rw [List.size_toArray]; exact i43' hqok) (Eq.trans (b := 43) (by rfl) (Eq.symm (show (q).cells.toArray.size = 43 from Pr.size hqok))) (Pr.one hqok) ?_); intro W11 H11 F11; have E67 : Ext w10 W11 := F11 w10.heap.size w10 ((Ext.refl w10).alloc _) (by omega); have P11 := Lib.hid H11; clear F11 H11)
  have E57 := E10.trans E67
  have B11 := Lib.hid (B9.out.ext E57)
  have O11 := Lib.hid (O9.out.ext E57)
  have E011 := Lib.hid (E09.out.trans E57)
  have hlv := live_any (A := fun _ => False) A8 c8 l2 nx pid W11 (by rw [HN2.out]; exact rdy_pr (B := fun _ => False) O11.out.y)
  rw [HN2.out, HLV2.out] at hlv
  have HL := Lib.hid hlv
  have kb := B11.out.two
  clear hlv hn11 E10 E67 E57 B9 O9 E09 HGET
  go_wp2_with fail
  refine HL.out.mono ?_
  rintro e w12 ⟨rfl, E12⟩
  have EE := Lib.hid (E011.out.trans E12)
  cases th
  · go_wp2
    go_ret
    exact ⟨rfl, EE.out⟩
  · have pc41 := (prAt_blk hqok (P11.out.ext E12)).c41
    rw [Nat.zero_add, HST3.out rfl] at pc41
    go_wp2
    go_ret
    exact ⟨rfl, EE.out⟩
end Go.Proofs.Yteljobleojhgmaa
