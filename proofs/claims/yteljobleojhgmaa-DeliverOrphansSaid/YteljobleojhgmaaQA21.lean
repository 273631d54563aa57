/- DeliverOrphans walked: the law answers true for every argument. Conditions: pending signals and masks have 64 bits; a number that fits. -/
import Derived.Test.YteljobleojhgmaaPA21
namespace Go.Proofs.Yteljobleojhgmaa
open Go.RowKit Go.Kb

theorem AlW.far {w W W' : World} {n1 N c n : Nat} {A : Option Addr} {nx : Int} {l : List Pr} (h : AlW w W n1 A N c nx l) (M : Mod (fun k => k = n) W W') (h1 : n1 ≠ n) (h2 : ∀ j, (Value.slice A N c).ownBlock = some j → j ≠ n) (h3 : w.heap.size ≤ n) : AlW w W' n1 A N c nx l :=
  ⟨h.box.mod M h1, h.own.mod M h2 (fun _ _ hk _ => hk), Mod.toExt h.ext M (by intro k hk he; omega), h.new⟩
theorem quiet_cells {p : Pr} (hp : p.ok) {k : Nat} (hk : 20 ≤ k ∧ k ≤ 22) : ((p.cells.toArray.setIfInBounds 7 (.int .u64 (Sig.ofL [(k : Int)]))).setIfInBounds 8 (.int .u64 0)).setIfInBounds (9 + k) (.int .i64 0) = (quietP p (k : Int)).cells.toArray := by
  have e1 : ∀ (L rest : List Value), L.length = 32 → (L ++ rest).set k (.int .i64 0) = L.set k (.int .i64 0) ++ rest := fun L rest hL => List.set_append_left _ _ (by omega)
  have e2 : (p.acts.map (Value.int .i64)).set k (.int .i64 0) = (p.acts.set k 0).map (Value.int .i64) := by rw [List.map_set]
  simp only [List.setIfInBounds_toArray]
  congr 1
  unfold Pr.ok at hp
  unfold quietP Pr.cells
  simp only [Int.toNat_natCast]
  rw [show 9 + k = k + 1 + 1 + 1 + 1 + 1 + 1 + 1 + 1 + 1 by omega]
  rw [← e2]
  simp only [List.cons_append, List.nil_append, List.set_cons_succ, List.set_cons_zero]
  rw [e1 _ _ (by simpa using hp)]
set_option maxRecDepth 100000 in
theorem index_three (k : Nat) (hk : 20 ≤ k ∧ k ≤ 22) {x : Int} (hx : x = (k : Int) - 20) : ∀ w, (Instr.index 50 (.agg #[.int .i64 20, .int .i64 21, .int .i64 22]) (.int .u64 x)).run Try.prog w = .ok (.int .i64 (k : Int)) w := by
  subst hx
  obtain rfl | rfl | rfl : k = 20 ∨ k = 21 ∨ k = 22 := by omega
  all_goals exact fun w => by kernel_rfl
theorem tmod_three (n : Int) : ∃ k : Nat, 20 ≤ k ∧ k ≤ 22 ∧ (IntKind.u64.wrap n).tmod 3 = (k : Int) - 20 := by
  have h0 : 0 ≤ IntKind.u64.wrap n := by rw [IntKind.wrap_u64]; exact Int.emod_nonneg _ (by decide)
  rw [Int.tmod_eq_emod_of_nonneg h0]
  exact ⟨((IntKind.u64.wrap n) % 3).toNat + 20, by omega, by omega, by omega⟩
set_option maxRecDepth 100000 in
set_option maxHeartbeats 3000000 in
theorem deliverOrphans_walk {A : Nat → Prop} (Ad : Option Addr) (c : Nat) (l : List Pr) (nx pid n : Int) (w : World) (h : RdY Rp A w (.slice Ad l.length c) l) (hb : Good l) :
    Calls Try.prog 5 #[tv Ad l.length c nx, .int .i64 pid, .int .i64 n] w fun e w' => e = .returned (.bool true) ∧ Ext w w' := by
  have H := Lib.hid (rdy_pr (B := fun _ => False) h)
  have HB := Lib.hid hb
  obtain ⟨N, hN⟩ : ∃ N, l.length = N := ⟨_, rfl⟩
  have HN := Lib.hid hN
  obtain ⟨W, hW⟩ : ∃ W, W = w.alloc (.cells #[.slice Ad N c, .int .i64 nx] 24) := ⟨_, rfl⟩
  have hbox := Lib.hid (show Blk W w.heap.size 24 #[.slice Ad N c, .int .i64 nx] by rw [hW]; exact Blk.new w _ _)
  have E0 : Ext w W := by rw [hW]; exact (Ext.refl _).alloc _
  have HW := Lib.hid hW
  have HGR := Lib.hid fun w' => great_any Ad c l nx w'
  have HTO := Lib.hid fun w' (E : Ext w w') (h40 : l.length ≤ 40) => tob_any (A := fun _ => False) Ad c l nx w' (H.out.ext E) (by omega)
  rw [hN] at HGR HTO ⊢
  clear h hb hW hN
  go_enter Try.func5, Try.ntmps5
  go_wp2_with fail
  rw [← HW.out]
  refine (alive_any W).mono ?_
  rintro e w1 ⟨rfl, E1⟩
  have E01 := E0.trans E1
  have kb := (hbox.out.ext E1).two
  go_wp2_with fail
  refine (HGR.out w1).mono ?_
  rintro e w2 ⟨rfl, E2⟩
  have E12 := E1.trans E2
  have E02 := E01.trans E2
  have kb := (hbox.out.ext E12).two
  by_cases h40 : 40 < N
  · have HD := Lib.hid (decide_eq_true h40)
    rw [HD.out]
    clear h40
    go_wp2
    go_ret
    exact ⟨rfl, E02⟩
  rw [decide_eq_false h40]
  have HNL := Lib.hid (show N ≤ 40 by omega)
  clear h40 HGR E1 E2 E01
  have kb := (hbox.out.ext E12).two
  go_wp2_with fail
  refine (HTO.out w2 E02 HNL.out).mono ?_
  rintro e w3 ⟨A3, c3, rfl, O3, E3⟩
  have E03 := E02.trans E3
  have O3 := O3.lower E02.size
  go_upto_region 6 with fail
  obtain ⟨n7, hn7⟩ : ∃ n7, w3.heap.size = n7 := ⟨_, rfl⟩
  rw [hn7]
  have S1 := Lib.hid (show AlW w (w3.alloc (.cells #[.slice A3 N c3, .int .i64 nx] 29)) n7 A3 N c3 nx l from ⟨Blk.at_ _ _ hn7, O3.alloc _, E03.alloc _, by rw [← hn7]; exact E03.size⟩)
  clear O3 E03 E3 hn7 E02 E12 kb hbox HW E0 HTO
  generalize w3.alloc _ = W1 at *
  obtain ⟨p, ok, hgp⟩ : ∃ p ok, getL l nx pid = (p, ok) := ⟨_, _, rfl⟩
  have hget := get_any (A := fun _ => False) A3 c3 l nx pid W1 (by rw [HN.out]; exact rdy_pr (B := fun _ => False) S1.out.own.y)
  rw [HN.out, hgp] at hget
  have HGET := Lib.hid hget
  have hpok : p.ok := by
    have := getL_ok (l := l) (nx := nx) (pid := pid) (RdY.oks S1.out.own.y)
    rw [hgp] at this; exact this
  have HGP := Lib.hid hgp
  have kb := S1.out.box.two
  clear hget hgp
  go_wp2_with fail
  refine HGET.out.mono ?_
  rintro e w4 ⟨rfl, E4⟩
  obtain ⟨n8, hn8⟩ : ∃ n8, w4.heap.size = n8 := ⟨_, rfl⟩
  go_upto_region 7 with ((refine wpList_store_A rfl 40 _ _ rfl (n8) _ rfl rfl 40 _ (zero_row w4 n8 hn8) (by rw [List.size_toArray]; exact i43' hpok) (Eq.trans (b := 43) (by rfl) (Eq.symm (show (p).cells.toArray.size = 43 from Pr.size hpok))) (Pr.one hpok) ?_); intro W4 H4 F4; have E67 : Ext w4 W4 := F4 w4.heap.size w4 ((Ext.refl w4).alloc _) (by omega); have P8 := Lib.hid H4; clear F4 H4)
  have S4 := Lib.hid (S1.out.up (E4.trans E67))
  have H8 := Lib.hid (show n8 ≠ n7 by have := (S1.out.up E4).box.lt; omega)
  have HRW := Lib.hid (show ∀ j, (Value.slice A3 N c3).ownBlock = some j → j ≠ n8 from fun j hj => by have := (S1.out.own.row j hj).2; have := E4.size; omega)
  have HWN := Lib.hid (show w.heap.size ≤ n8 by have := S1.out.ext.size; have := E4.size; omega)
  clear hn8 E4 E67 S1 HGET kb
  cases ok
  · have EE := Lib.hid S4.out.ext
    go_wp2
    go_ret
    exact ⟨rfl, EE.out⟩
  have pc4 := (prAt_blk hpok P8.out).c4
  rw [Nat.zero_add] at pc4
  by_cases hs1 : p.state = 1
  case neg =>
    have h1b : (p.state != 1) = true := by simpa using hs1
    have EE := Lib.hid S4.out.ext
    clear hs1
    go_wp2
    go_ret
    exact ⟨rfl, EE.out⟩
  have h1b : (p.state != 1) = false := by simpa using hs1
  go_upto_region 9 with fail
  have HS1 := Lib.hid hs1
  clear hs1 h1b pc4
  obtain ⟨k, hk1, hk2, hkm⟩ := tmod_three n
  have ix := index_three k ⟨hk1, hk2⟩ hkm
  have HK := Lib.hid (show 20 ≤ k ∧ k ≤ 22 from ⟨hk1, hk2⟩)
  clear hkm
  have HOF := Lib.hid fun v w' h => Sig.of_set_any v [(k : Int)] w' h
  have HQC := Lib.hid (quiet_cells hpok HK.out)
  have hs : (k : Int) = 20 ∨ (k : Int) = 21 ∨ (k : Int) = 22 := by omega
  have HPL := Lib.hid (orphans_plain HB.out hpok HGP.out HS1.out hs)
  have HGD1 := Lib.hid (quiet_good (k := pid) (sig := (k : Int)) (p := p) HB.out)
  have hpid : p.pid = pid := by
    have := (get_mem (l := l) (nx := nx) (pid := pid) (by rw [HGP.out])).2.1
    rw [HGP.out] at this; exact this
  have hrt : rightL l nx = true := (get_mem (l := l) (nx := nx) (pid := pid) (by rw [HGP.out])).2.2
  have HR := Lib.hid hrt
  have hqok : (quietP p (k : Int)).ok := by
    show (p.acts.set _ _).length = 32
    rw [List.length_set]; exact hpok
  obtain ⟨q, hq⟩ : ∃ q, quietP p (k : Int) = q := ⟨_, rfl⟩
  have hqp : q.pid = pid := by rw [← hq]; exact hpid
  have hqg : q.group = p.group := by rw [← hq]; rfl
  have hqr : q.parent = p.parent := by rw [← hq]; rfl
  rw [hq] at HQC HPL HGD1 hqok
  obtain ⟨L1, hL1⟩ : ∃ L1, changeL (fun _ => q) pid l = L1 := ⟨_, rfl⟩
  rw [hL1] at HPL HGD1
  have HL1 := Lib.hid hL1
  have HLN := Lib.hid (show L1.length = N by rw [← hL1, changeL_len]; exact HN.out)
  have HQP := Lib.hid hqp
  have HQG := Lib.hid hqg
  have HQR := Lib.hid hqr
  generalize Sig.ofL [(k : Int)] = of1 at HOF HQC
  have HPO := Lib.hid hpok
  clear hq hs hpid hrt hL1 hqp hqg hqr
  go_upto_region 10 with fail
  go_wp2_with fail
  refine (HOF.out _ _ ?_).mono ?_
  · exact RI.lit .i64 [(k : Int)] _ (by simp) (by simp)
  rintro e w5 ⟨rfl, E5⟩
  have E45 : Ext W4 w5 := (by repeat (first | with_reducible exact Ext.refl _ | refine Ext.drewN ?_ _ | refine Ext.drew ?_ | refine Ext.alloc ?_ _ | assumption | (refine Below.trans ?_ (by assumption)) | (refine Ext.trans ?_ (by assumption)) | (refine Below.trans ?_ (Below.mono (by assumption) (by omega)))))
  have P5 := P8.out.ext E45
  have S5 := Lib.hid (S4.out.up E45)
  have hA := prAt_blk hpok P5
  have pc7 := hA.c7
  have pc8 := hA.c8
  have pck : w5.cell? ⟨n8, 9 + k, none⟩ = some (.int .i64 (p.acts.getD k 0)) := by
    have h0 := hA.ca k (p.acts.getD k 0) (by
      have hlt : k < p.acts.length := by unfold Pr.ok at hpok; omega
      rw [List.getD_eq_getElem?_getD, List.getElem?_eq_getElem hlt]; rfl)
    rw [Nat.zero_add] at h0; exact h0
  have pf7 := P5.frozen 7
  have pf8 := P5.frozen 8
  have pfk := P5.frozen (9 + k)
  rw [Nat.zero_add] at pc7 pc8
  have hk20 : 20 ≤ k := HK.out.1
  have hk22 : k ≤ 22 := HK.out.2
  clear hA S4 P8 E5 HOF ix
  have P5 := Lib.hid P5
  go_upto_region 12 with fail
  have M6 : Mod (fun k => k = n8) w5 _ := (((Mod.refl _ w5).set1 (.int .u64 of1) (o := 7)).set1 (.int .u64 0) (o := 8)).set1 (.int .i64 0) (o := 9 + k)
  have P6 := Lib.hid (((P5.out.set_ 7 (.int .u64 of1)).set_ 8 (.int .u64 0)).set_ (9 + k) (.int .i64 0))
  rw [HQC.out] at P6
  have S6 := Lib.hid (S5.out.far M6 (Ne.symm H8.out) HRW.out HWN.out)
  clear M6 P5 S5 pc7 pc8 pck pf7 pf8 pfk HQC E45
  generalize ((w5.setCell _ _).setCell _ _).setCell _ _ = W6 at *
  have kb := S6.out.box.two
  have hset := set_right (A := fun _ => False) A3 c3 l nx q W6 (by rw [HN.out]; exact rdy_pr (B := fun _ => False) S6.out.own.y) hqok HR.out
  rw [HN.out, HQP.out, HL1.out] at hset
  have HSET := Lib.hid hset
  clear hset
  go_wp2_with (refine wpList_load_row rfl 40 _ rfl _ rfl 40 _ _ _ P6.out Try.underlying40 rfl (by rw [List.size_toArray]; exact i43' hqok) ?_)
  refine HSET.out.mono ?_
  rintro e w7 ⟨A7, c7, rfl, O7, E7⟩
  have S7 := Lib.hid (S6.out.put E7 O7 S6.out.ext.size (nx2 := nx))
  have P7 := Lib.hid (far2 P6.out H8.out E7 (.slice A7 N c7) (.int .i64 nx))
  have kb := (S6.out.box.ext E7).two
  clear O7 E7 S6 P6 HSET
  go_upto_region 13 with fail
  generalize (w7.setCell _ _).setCell _ _ = W7 at *
  have kb := S7.out.box.two
  have pc2 := (prAt_blk hqok P7.out).c2
  rw [Nat.zero_add, HQG.out] at pc2
  have hor := orphaned_any (A := fun _ => False) A7 c7 L1 nx p.group W7 (by rw [HLN.out]; exact rdy_pr (B := fun _ => False) S7.out.own.y)
  rw [HLN.out] at hor
  have HOR := Lib.hid hor
  clear hor
  go_wp2_with fail
  refine HOR.out.mono ?_
  rintro e w8 ⟨rfl, E8⟩
  obtain ⟨o, ho⟩ : ∃ o, orphL L1 nx p.group = o := ⟨_, rfl⟩
  rw [ho]
  rw [ho] at HPL
  have S8 := Lib.hid (S7.out.up E8)
  have P8 := Lib.hid (P7.out.ext E8)
  have kb := S8.out.box.two
  have htk := take_any (A := fun _ => False) A7 c7 L1 nx pid w8 (by rw [HLN.out]; exact rdy_pr (B := fun _ => False) S8.out.own.y) HGD1.out.1 HGD1.out.2
  unfold TakePost at htk
  rw [HLN.out] at htk
  have HTK := Lib.hid htk
  clear htk HOR E8 S7 P7 pc2 ho
  have HS5 := Lib.hid fun (l2 : List Pr) w9 A9 c9 (T : TabN 40 A7 c7 L1 w8.heap.size w9 A9 c9 l2) (E9 : Ext w8 w9) => own_tabN T (by rw [HLN.out]; exact S8.out.own) E9 S8.out.ext.size
  have E08 := Lib.hid S8.out.ext
  cases o
  · obtain ⟨l2, z, htk, hgz, hz2, hzs, hzt, hgd2, hup⟩ := HPL.out.2 rfl
    have HTK := Lib.hid (show Calls Try.prog 12 #[tv A7 N c7 nx, .int .i64 pid] w8 fun e w' => ∃ A' c', e = .returned (.tuple #[tv A' l2.length c' nx, .int .i64 (k : Int), .int .i64 4]) ∧ TabN 40 A7 c7 L1 w8.heap.size w' A' c' l2 ∧ Ext w8 w' by
      have := HTK.out
      rw [htk] at this; exact this)
    have HGZ := Lib.hid hgz
    obtain ⟨N2, hN2⟩ : ∃ N2, l2.length = N2 := ⟨_, rfl⟩
    have HN2 := Lib.hid hN2
    rw [hN2] at HTK
    clear htk hgz hN2 HPL
    go_wp2_with fail
    refine HTK.out.mono ?_
    rintro e w9 ⟨A9, c9, rfl, T9, E9⟩
    have O9 := HS5.out l2 w9 A9 c9 T9 E9
    rw [HN2.out] at O9
    clear HTK HS5 T9
    go_upto_region 15 with fail
    obtain ⟨n12, hn12⟩ : ∃ n12, w9.heap.size = n12 := ⟨_, rfl⟩
    rw [hn12]
    have B12 := Lib.hid (Blk.at_ (w := w9) 29 #[.slice A9 N2 c9, .int .i64 nx] hn12)
    have O12 := Lib.hid (O9.alloc (.cells #[.slice A9 N2 c9, .int .i64 nx] 29))
    have E012 := Lib.hid ((E08.out.trans E9).alloc (.cells #[.slice A9 N2 c9, .int .i64 nx] 29))
    have P12 := Lib.hid (P8.out.ext (E9.alloc (.cells #[.slice A9 N2 c9, .int .i64 nx] 29)))
    clear O9 E9 hn12 kb P8 E08 S8
    generalize w9.alloc _ = W12 at *
    have kb := B12.out.two
    have hget := get_any (A := fun _ => False) A9 c9 l2 nx pid W12 (by rw [HN2.out]; exact rdy_pr (B := fun _ => False) O12.out.y)
    rw [HN2.out, HGZ.out] at hget
    have HGET := Lib.hid hget
    have hzok : z.ok := by
      have := getL_ok (l := l2) (nx := nx) (pid := pid) (RdY.oks O12.out.y)
      rw [HGZ.out] at this; exact this
    clear hget
    go_wp2_with fail
    refine HGET.out.mono ?_
    rintro e w13 ⟨rfl, E13⟩
    obtain ⟨n15, hn15⟩ : ∃ n15, w13.heap.size = n15 := ⟨_, rfl⟩
    go_upto_region 16 with ((refine wpList_store_A rfl 40 _ _ rfl (n15) _ rfl rfl 40 _ (zero_row w13 n15 hn15) (by rw [List.size_toArray]; exact i43' hzok) (Eq.trans (b := 43) (by rfl) (Eq.symm (show (z).cells.toArray.size = 43 from Pr.size hzok))) (Pr.one hzok) ?_); intro W13 H13 F13; have E67 : Ext w13 W13 := F13 w13.heap.size w13 ((Ext.refl w13).alloc _) (by omega); have PZ := Lib.hid H13; clear F13 H13)
    have EE13 := E13.trans E67
    have EZ := Lib.hid (E012.out.trans EE13)
    have PQ := Lib.hid (P12.out.ext EE13)
    have BT := Lib.hid (B12.out.ext EE13)
    have OT := Lib.hid (O12.out.ext EE13)
    clear hn15 E13 E67 EE13 E012 P12 B12 O12 HGET kb
    have kb := BT.out.two
    have qc1 := (prAt_blk hqok PQ.out).c1
    rw [Nat.zero_add, HQR.out] at qc1
    obtain ⟨up, is, hgu⟩ : ∃ up is, getL l2 nx p.parent = (up, is) := ⟨_, _, rfl⟩
    have hget := get_any (A := fun _ => False) A9 c9 l2 nx p.parent W13 (by rw [HN2.out]; exact rdy_pr (B := fun _ => False) OT.out.y)
    rw [HN2.out, hgu] at hget
    have HGET := Lib.hid hget
    have huok : up.ok := by
      have := getL_ok (l := l2) (nx := nx) (pid := p.parent) (RdY.oks OT.out.y)
      rw [hgu] at this; exact this
    have HUP := Lib.hid (show is = true → Sig.U64 up.pending ∧ (up.state = 3 ∨ p.parent = pid ∨ Sig.hasL up.pending 17 = true) from fun h1 => by
      have h2 := hup (by rw [hgu]; exact h1)
      have h3 := (get_mem (l := l2) (nx := nx) (pid := p.parent) (by rw [hgu]; exact h1)).1
      rw [hgu] at h2 h3
      exact ⟨hgd2.1 up h3, h2⟩)
    have HZ2 := Lib.hid hz2
    have HZS := Lib.hid hzs
    have HZT := Lib.hid hzt
    clear hget hgu hup hgd2 hz2 hzs hzt
    go_wp2_with fail
    refine HGET.out.mono ?_
    rintro e w14 ⟨rfl, E14⟩
    obtain ⟨n17, hn17⟩ : ∃ n17, w14.heap.size = n17 := ⟨_, rfl⟩
    go_upto_region 21 with ((refine wpList_store_A rfl 40 _ _ rfl (n17) _ rfl rfl 40 _ (zero_row w14 n17 hn17) (by rw [List.size_toArray]; exact i43' huok) (Eq.trans (b := 43) (by rfl) (Eq.symm (show (up).cells.toArray.size = 43 from Pr.size huok))) (Pr.one huok) ?_); intro W14 H14 F14; have E67 : Ext w14 W14 := F14 w14.heap.size w14 ((Ext.refl w14).alloc _) (by omega); have PU := Lib.hid H14; clear F14 H14)
    have EE14 := E14.trans E67
    have EF := Lib.hid (EZ.out.trans EE14)
    have PQ := Lib.hid (PQ.out.ext EE14)
    have hZ := prAt_blk hzok (PZ.out.ext EE14)
    have zc4 := hZ.c4
    have zc41 := hZ.c41
    have zc42 := hZ.c42
    rw [Nat.zero_add] at zc4 zc41 zc42
    rw [HZ2.out] at zc4
    rw [HZS.out] at zc41
    rw [HZT.out] at zc42
    have hwr : IntKind.i64.wrap (3000 + (k : Int)) = 3000 + (k : Int) := IntWalk.i64_in _ (by omega)
    clear hn17 E14 E67 EE14 HGET kb qc1 hZ EZ
    cases is
    · go_wp2
      go_ret
      exact ⟨rfl, EF.out⟩
    obtain ⟨hub, hu3⟩ := HUP.out rfl
    have uc4 := (prAt_blk huok PU.out).c4
    have uc7 := (prAt_blk huok PU.out).c7
    have qc1 := (prAt_blk hqok PQ.out).c1
    rw [Nat.zero_add] at uc4 uc7 qc1
    rw [HQR.out] at qc1
    by_cases hs3 : up.state = 3
    · have h3b : (up.state == 3) = true := by simpa using hs3
      clear hu3
      go_wp2
      go_ret
      exact ⟨rfl, EF.out⟩
    have h3b : (up.state == 3) = false := by simpa using hs3
    by_cases hpp : p.parent = pid
    · have hppb : (p.parent == pid) = true := by simpa using hpp
      clear hu3 hs3
      go_wp2
      go_ret
      exact ⟨rfl, EF.out⟩
    have hppb : (p.parent == pid) = false := by simpa using hpp
    have HH := Lib.hid fun w' => Sig.has_any up.pending 17 w' hub
    rw [(hu3.resolve_left hs3).resolve_left hpp] at HH
    clear hu3 hs3 hpp
    go_wp2_with fail
    refine (HH.out _).mono ?_
    rintro e w15 ⟨rfl, E15⟩
    have EE := Lib.hid (EF.out.trans E15)
    go_wp2
    go_ret
    exact ⟨rfl, EE.out⟩
  · obtain ⟨l2, z, htk, hgz, hz1⟩ := HPL.out.1 rfl
    have HTK := Lib.hid (show Calls Try.prog 12 #[tv A7 N c7 nx, .int .i64 pid] w8 fun e w' => ∃ A' c', e = .returned (.tuple #[tv A' l2.length c' nx, .int .i64 (k : Int), .int .i64 3]) ∧ TabN 40 A7 c7 L1 w8.heap.size w' A' c' l2 ∧ Ext w8 w' by
      have := HTK.out
      rw [htk] at this; exact this)
    have HGZ := Lib.hid hgz
    obtain ⟨N2, hN2⟩ : ∃ N2, l2.length = N2 := ⟨_, rfl⟩
    have HN2 := Lib.hid hN2
    rw [hN2] at HTK
    clear htk hgz hN2 HPL
    go_wp2_with fail
    refine HTK.out.mono ?_
    rintro e w9 ⟨A9, c9, rfl, T9, E9⟩
    have O9 := HS5.out l2 w9 A9 c9 T9 E9
    rw [HN2.out] at O9
    clear HTK HS5 T9
    go_upto_region 15 with fail
    obtain ⟨n12, hn12⟩ : ∃ n12, w9.heap.size = n12 := ⟨_, rfl⟩
    rw [hn12]
    have B12 := Lib.hid (Blk.at_ (w := w9) 29 #[.slice A9 N2 c9, .int .i64 nx] hn12)
    have O12 := Lib.hid (O9.alloc (.cells #[.slice A9 N2 c9, .int .i64 nx] 29))
    have E012 := Lib.hid ((E08.out.trans E9).alloc (.cells #[.slice A9 N2 c9, .int .i64 nx] 29))
    have P12 := Lib.hid (P8.out.ext (E9.alloc (.cells #[.slice A9 N2 c9, .int .i64 nx] 29)))
    clear O9 E9 hn12 kb P8 E08 S8
    generalize w9.alloc _ = W12 at *
    have kb := B12.out.two
    have hget := get_any (A := fun _ => False) A9 c9 l2 nx pid W12 (by rw [HN2.out]; exact rdy_pr (B := fun _ => False) O12.out.y)
    rw [HN2.out, HGZ.out] at hget
    have HGET := Lib.hid hget
    have hzok : z.ok := by
      have := getL_ok (l := l2) (nx := nx) (pid := pid) (RdY.oks O12.out.y)
      rw [HGZ.out] at this; exact this
    clear hget
    go_wp2_with fail
    refine HGET.out.mono ?_
    rintro e w13 ⟨rfl, E13⟩
    obtain ⟨n15, hn15⟩ : ∃ n15, w13.heap.size = n15 := ⟨_, rfl⟩
    go_upto_region 16 with ((refine wpList_store_A rfl 40 _ _ rfl (n15) _ rfl rfl 40 _ (zero_row w13 n15 hn15) (by rw [List.size_toArray]; exact i43' hzok) (Eq.trans (b := 43) (by rfl) (Eq.symm (show (z).cells.toArray.size = 43 from Pr.size hzok))) (Pr.one hzok) ?_); intro W13 H13 F13; have E67 : Ext w13 W13 := F13 w13.heap.size w13 ((Ext.refl w13).alloc _) (by omega); have PZ := Lib.hid H13; clear F13 H13)
    have EE13 := E13.trans E67
    have EZ := Lib.hid (E012.out.trans EE13)
    have PQ := Lib.hid (P12.out.ext EE13)
    have BT := Lib.hid (B12.out.ext EE13)
    have OT := Lib.hid (O12.out.ext EE13)
    clear hn15 E13 E67 EE13 E012 P12 B12 O12 HGET kb
    have zc4 := (prAt_blk hzok PZ.out).c4
    rw [Nat.zero_add, hz1] at zc4
    clear hz1
    go_wp2
    go_ret
    exact ⟨rfl, EZ.out⟩
end Go.Proofs.Yteljobleojhgmaa
