/- The document's Take, by contract. Condition: pending signals and masks have 64 bits. -/
import Derived.Test.YteljobleojhgmaaGreatZA21
import Derived.Test.YteljobleojhgmaaGreatY21
namespace Go.Proofs.YteljobleojhgmaaGreat
open Go.RowKit Go.Kb

def RTakePost (Ad : Option Addr) (c : Nat) (l : List Pr) (nx pid : Int) (w : World) (e : Ending) (w' : World) : Prop :=
  ∃ A' c', e = .returned (.tuple #[tv A' (takeL l nx pid).1.length c' nx, .int .i64 (takeL l nx pid).2.1, .int .i64 (takeL l nx pid).2.2]) ∧ TabR Ad c l w.heap.size w' A' c' (takeL l nx pid).1 ∧ Ext w w'
set_option maxRecDepth 100000 in
set_option maxHeartbeats 3000000 in
theorem rtake_any {A : Nat → Prop} (Ad : Option Addr) (c : Nat) (l : List Pr) (nx pid : Int) (w : World) (h : RdY Rp A w (.slice Ad l.length c) l) (hb : ∀ p ∈ l, Sig.U64 p.pending) (hm : ∀ p ∈ l, Sig.U64 p.mask) :
    Calls Tryz.prog 26 #[tv Ad l.length c nx, .int .i64 pid] w (RTakePost Ad c l nx pid w) := by
  have H := Lib.hid (rdy_pr (B := fun _ => False) h)
  have hoks := Lib.hid (RdY.oks h)
  have HB := Lib.hid hb
  have HMK := Lib.hid hm
  obtain ⟨p, ok, hgp⟩ : ∃ p ok, getL l nx pid = (p, ok) := ⟨_, _, rfl⟩
  have HPK := Lib.hid (show p.ok by have := getL_ok (l := l) (nx := nx) (pid := pid) hoks.out; rw [hgp] at this; exact this)
  have HGM := Lib.hid (show ok = true → p ∈ l ∧ p.pid = pid ∧ rightL l nx = true from fun h1 => by
    have := get_mem (l := l) (nx := nx) (pid := pid) (by rw [hgp]; exact h1)
    rw [hgp] at this
    exact this)
  have HGET := Lib.hid fun w' (E : Ext w w') => rget_any (A := fun _ => False) Ad c l nx pid w' (H.out.ext E)
  rw [hgp] at HGET
  have hcan : canL l nx pid = (ok && (p.state == 1 && (Sig.pickL p.pending p.mask).2)) := by unfold canL; rw [hgp]
  have HNO := Lib.hid (show canL l nx pid = false → takeL l nx pid = (l, 0, 0) from fun h1 => by unfold takeL; rw [h1]; rfl)
  have HYES := Lib.hid (show canL l nx pid = true → takeL l nx pid = ((doL (tookL l p (sigL p)) nx (tookP p (sigL p)) (sigL p) (Sig.effL p.acts (sigL p))).1, sigL p, (doL (tookL l p (sigL p)) nx (tookP p (sigL p)) (sigL p) (Sig.effL p.acts (sigL p))).2) from fun h1 => by unfold takeL; rw [h1, hgp]; rfl)
  obtain ⟨TK, hTK⟩ : ∃ TK, takeL l nx pid = TK := ⟨_, rfl⟩
  obtain ⟨cn, hcn⟩ : ∃ cn, canL l nx pid = cn := ⟨_, rfl⟩
  rw [hTK, hcn] at HNO HYES
  rw [hcn] at hcan
  have HCN := Lib.hid hcan
  unfold RTakePost
  rw [hTK]
  have hN0 : ∃ N, l.length = N := ⟨_, rfl⟩
  obtain ⟨N, hN⟩ := hN0
  have HN := Lib.hid hN
  rw [hN] at H HGET ⊢
  obtain ⟨W, hW⟩ : ∃ W, W = (w.alloc (.cells #[.slice Ad N c, .int .i64 nx] 33)).alloc (.cells #[.slice none 0 0, .int .i64 0] 33) := ⟨_, rfl⟩
  have hres := Lib.hid (show Blk W (w.heap.size + 1) 33 #[.slice none 0 0, .int .i64 0] by rw [hW]; exact Blk.at_ _ _ (by simp))
  have hbox := Lib.hid (show Blk W w.heap.size 33 #[.slice Ad N c, .int .i64 nx] by rw [hW]; exact (Blk.new w _ _).alloc _)
  have E0 : Ext w W := by rw [hW]; exact (by repeat (first | with_reducible exact Ext.refl _ | refine Ext.drewN ?_ _ | refine Ext.drew ?_ | refine Ext.alloc ?_ _ | assumption | (refine Below.trans ?_ (by assumption)) | (refine Ext.trans ?_ (by assumption)) | (refine Below.trans ?_ (Below.mono (by assumption) (by omega)))))
  have HW2 := Lib.hid (show W.heap.size = w.heap.size + 2 by rw [hW]; simp)
  have HW := Lib.hid hW
  clear h hb hm hW hgp hTK hcn hcan hN
  go_enter Tryz.func26, Tryz.ntmps26
  go_wp2_with fail
  rw [← HW.out]
  have kb := hbox.out.two
  go_wp2_with fail
  refine (HGET.out W E0).mono ?_
  rintro e w4 ⟨rfl, E4⟩
  have E04 := E0.trans E4
  obtain ⟨n7, hn7⟩ : ∃ n7, w4.heap.size = n7 := ⟨_, rfl⟩
  clear kb HGET
  have hpok := HPK.out
  cases ok
  · have HTK := Lib.hid (HNO.out (by rw [HCN.out]; rfl))
    go_upto_region 2 with ((refine wpList_store_A rfl 64 _ _ rfl (n7) _ rfl rfl 64 _ (zero_rowR w4 n7 hn7) (by rw [List.size_toArray]; exact i43r' hpok) (Eq.trans (b := 43) (by rfl) (Eq.symm (show (p).cells.toArray.size = 43 from Pr.size hpok))) (Pr.one hpok) ?_); intro w5 H5 E5; have E45 : Ext w4 w5 := E5 w4.heap.size w4 ((Ext.refl w4).alloc _) (by omega); clear E5 H5)
    have E45 := Lib.hid E45
    have hM8 : Mod (fun k => k = w.heap.size + 1) w5 _ := ((Mod.refl _ w5).set1 (.slice Ad N c) (o := 0)).set1 (.int .i64 nx) (o := 1)
    obtain ⟨q0, q1, _, _⟩ := ((hres.out.ext (E4.trans E45.out)).put2 (.slice Ad N c) (.int .i64 nx)).two
    have kb := (hbox.out.ext (E4.trans E45.out)).two
    have ks := (hres.out.ext (E4.trans E45.out)).two
    have EE := Lib.hid (Mod.toExt (E04.trans E45.out) hM8 (by intro k hk he; omega))
    clear hM8
    go_wp2
    refine bodyPost_ret (v := .tuple #[tv Ad N c nx, .int .i64 0, .int .i64 0]) (by simp [results, Tryz.results26, go_sem, q0, q1]) rfl ?_
    rw [HTK.out]
    exact ⟨Ad, c, by rw [HN.out], .inl ⟨rfl, rfl, rfl⟩, EE.out⟩
  obtain ⟨hpl, hpp, hr⟩ := HGM.out rfl
  have HR := Lib.hid hr
  have HPP := Lib.hid (HB.out p hpl)
  have HPM := Lib.hid (HMK.out p hpl)
  have HPID := Lib.hid hpp
  clear hpl hr HGM hpp
  go_upto_region 2 with ((refine wpList_store_A rfl 64 _ _ rfl (n7) _ rfl rfl 64 _ (zero_rowR w4 n7 hn7) (by rw [List.size_toArray]; exact i43r' hpok) (Eq.trans (b := 43) (by rfl) (Eq.symm (show (p).cells.toArray.size = 43 from Pr.size hpok))) (Pr.one hpok) ?_); intro w5 H5 E5; have E45 : Ext w4 w5 := E5 w4.heap.size w4 ((Ext.refl w4).alloc _) (by omega); have b10 := Lib.hid H5; clear E5 H5)
  have E05 := E04.trans E45
  have EW5 := E4.trans E45
  have HN7 := Lib.hid (show w.heap.size + 2 ≤ n7 by rw [← hn7, ← HW2.out]; exact E4.size)
  clear hn7 E45 E4 E04
  have pc4 := (prAt_blk hpok b10.out).c4
  rw [Nat.zero_add] at pc4
  by_cases hst : p.state = 1
  case neg =>
    have hsb : (p.state == 1) = false := by simpa using hst
    have hsn : (p.state != 1) = true := by simpa using hst
    have HTK := Lib.hid (HNO.out (by rw [HCN.out, hsb]; rfl))
    have hM8 : Mod (fun k => k = w.heap.size + 1) w5 _ := ((Mod.refl _ w5).set1 (.slice Ad N c) (o := 0)).set1 (.int .i64 nx) (o := 1)
    obtain ⟨q0, q1, _, _⟩ := ((hres.out.ext EW5).put2 (.slice Ad N c) (.int .i64 nx)).two
    have kb := (hbox.out.ext EW5).two
    have ks := (hres.out.ext EW5).two
    have EE := Lib.hid (Mod.toExt E05 hM8 (by intro k hk he; omega))
    clear hM8
    go_wp2
    refine bodyPost_ret (v := .tuple #[tv Ad N c nx, .int .i64 0, .int .i64 0]) (by simp [results, Tryz.results26, go_sem, q0, q1]) rfl ?_
    rw [HTK.out]
    exact ⟨Ad, c, by rw [HN.out], .inl ⟨rfl, rfl, rfl⟩, EE.out⟩
  have hsb : (p.state == 1) = true := by simpa using hst
  have HST := Lib.hid hst
  rw [hst] at pc4
  have HCN := Lib.hid (show cn = (Sig.pickL p.pending p.mask).2 by rw [HCN.out, hsb]; rfl)
  clear hst hsb
  have HPI := Lib.hid fun w' => Sig.rpick_any p.pending p.mask w' HPP.out HPM.out
  rw [Sig.pick_eq HPP.out] at HPI
  obtain ⟨sg, is, hpi⟩ : ∃ sg is, Sig.pickL p.pending p.mask = (sg, is) := ⟨_, _, rfl⟩
  have HSB := Lib.hid (show is = true → 1 ≤ sg ∧ sg ≤ 28 from fun h1 => by have := pick_bd (p := p.pending) (m := p.mask) (by rw [hpi]; exact h1); rw [hpi] at this; exact this)
  have hsl : sigL p = sg := by unfold sigL; rw [hpi]
  rw [hpi] at HPI HCN
  rw [hsl] at HYES
  clear hpi hsl
  have pc7 := (prAt_blk hpok b10.out).c7
  have pc8 := (prAt_blk hpok b10.out).c8
  rw [Nat.zero_add] at pc7 pc8
  go_wp2_with fail
  refine (HPI.out _).mono ?_
  rintro e w6 ⟨rfl, E6⟩
  clear pc4 pc7 pc8 HPI
  cases is
  · have HTK := Lib.hid (HNO.out HCN.out)
    have E06 := E05.trans E6
    have EW6 := EW5.trans E6
    have hM8 : Mod (fun k => k = w.heap.size + 1) w6 _ := ((Mod.refl _ w6).set1 (.slice Ad N c) (o := 0)).set1 (.int .i64 nx) (o := 1)
    obtain ⟨q0, q1, _, _⟩ := ((hres.out.ext EW6).put2 (.slice Ad N c) (.int .i64 nx)).two
    have kb := (hbox.out.ext EW6).two
    have ks := (hres.out.ext EW6).two
    have EE := Lib.hid (Mod.toExt E06 hM8 (by intro k hk he; omega))
    clear hM8
    go_wp2
    refine bodyPost_ret (v := .tuple #[tv Ad N c nx, .int .i64 0, .int .i64 0]) (by simp [results, Tryz.results26, go_sem, q0, q1]) rfl ?_
    rw [HTK.out]
    exact ⟨Ad, c, by rw [HN.out], .inl ⟨rfl, rfl, rfl⟩, EE.out⟩
  have HY := Lib.hid (HYES.out HCN.out)
  have hsg := HSB.out rfl
  have b10 := Lib.hid (b10.out.ext E6)
  have E06 := E05.trans E6
  have EW6 := EW5.trans E6
  clear HNO HYES HCN HSB E05 EW5 E6 HMK
  have pc7 := (prAt_blk hpok b10.out).c7
  rw [Nat.zero_add] at pc7
  go_wp2_with fail
  refine (Sig.rdel_any p.pending sg _ HPP.out).mono ?_
  rintro e w7 ⟨rfl, E7⟩
  have b7 := b10.out.ext E7
  have pc7 := (prAt_blk hpok b7).c7
  have pf7 := b7.frozen 7
  rw [Nat.zero_add] at pc7
  go_upto_region 8 with fail
  have M8 : Mod (fun k => k = n7) w7 _ := (Mod.refl _ w7).set1 (.int .u64 (Sig.delL p.pending sg)) (o := 7)
  have BQ := Lib.hid (show Blk _ n7 64 (tookP p sg).cells.toArray by rw [show (tookP p sg).cells.toArray = p.cells.toArray.setIfInBounds 7 (.int .u64 (Sig.delL p.pending sg)) from pend_cells.symm]; exact b7.set_ 7 (.int .u64 (Sig.delL p.pending sg)))
  have E08 := Lib.hid (Mod.toExt (E06.trans E7) M8 (by intro k hk he; have := HN7.out; omega))
  have EW8 := Lib.hid (Mod.toExt (EW6.trans E7) M8 (by intro k hk he; have := HN7.out; have := HW2.out; omega))
  clear M8 pc7 pf7 E7 E06 EW6 b10 b7
  generalize w7.setCell _ _ = W8 at *
  have hqok : (tookP p sg).ok := hpok
  have HN8 := Lib.hid (show n7 + 1 ≤ W8.heap.size from BQ.out.lt)
  have HB8 := Lib.hid (hbox.out.ext EW8.out)
  have SX := Lib.hid (hres.out.ext EW8.out)
  have hset := rset_ok (A := fun _ => False) Ad c l nx (tookP p sg) W8 (by rw [HN.out]; exact H.out.ext E08.out) hqok HR.out
  rw [HN.out] at hset
  have HSET := Lib.hid hset
  obtain ⟨ef, hef⟩ : ∃ ef, Sig.effL p.acts sg = ef := ⟨_, rfl⟩
  have HEF := Lib.hid fun w' => Sig.reffect_any p.acts sg w' hpok
  have HEC := Lib.hid (eff_cases p.acts sg)
  rw [hef] at HEF HEC HY
  have HL1 := Lib.hid (show (tookL l p sg).length = N by rw [tookL_len]; exact HN.out)
  have HR1 := Lib.hid (show rightL (tookL l p sg) nx = true by rw [tookL_right]; exact HR.out)
  have HBD1 := Lib.hid (show ∀ q ∈ tookL l p sg, Sig.U64 q.pending from tookL_bd HB.out HPP.out)
  have HBQ := Lib.hid (show Sig.U64 (tookP p sg).pending from Sig.delL_bd HPP.out sg)
  have HQP := Lib.hid (show (tookP p sg).pid = pid from HPID.out)
  obtain ⟨L1, hL1⟩ : ∃ L1, tookL l p sg = L1 := ⟨_, rfl⟩
  have HSET := Lib.hid (show Calls Tryz.prog 60 #[tv Ad N c nx, .agg (tookP p sg).cells.toArray] W8 fun e w'' => ∃ A' c', e = .returned (tv A' N c' nx) ∧ OwnS Rp 64 W8.heap.size (fun _ => False) w'' (.slice A' N c') L1 ∧ Ext W8 w'' from by rw [← hL1]; exact HSET.out)
  have hpa : (tookP p sg).acts = p.acts := rfl
  rw [hL1] at HY HL1 HR1 HBD1
  obtain ⟨q, hq⟩ : ∃ q, tookP p sg = q := ⟨_, rfl⟩
  rw [hq] at BQ hqok HSET HY HBQ HQP hpa
  rw [← hpa] at HEF
  clear hL1 hq hpa hef hset HPM HST HPK HB HR hpok
  have kb := HB8.out.two
  go_wp2_with (first
    | (refine wpList_load_row rfl 64 _ rfl _ rfl 64 _ _ _ BQ.out Tryz.underlying64 rfl (by rw [List.size_toArray]; exact i43r' hqok) ?_))
  refine HSET.out.mono ?_
  rintro e w9 ⟨A9, c9, rfl, O9, E9⟩
  have B9 := HB8.out.ext E9
  have M9 : Mod (fun k => k = w.heap.size) w9 _ := ((Mod.refl _ w9).set1 (.slice A9 N c9) (o := 0)).set1 (.int .i64 nx) (o := 1)
  have kb := B9.two
  have OX := Lib.hid ((own_tbl O9 M9 B9).lower (base' := n7 + 1) HN8.out)
  have SX := Lib.hid ((SX.out.ext E9).mod M9 (by show ¬ _ = _; omega))
  have BQ := Lib.hid ((BQ.out.ext E9).mod M9 (by show ¬ _ = _; have := HN7.out; omega))
  have EX := Lib.hid (Mod.toExt (E08.out.trans E9) M9 (by intro k hk he; omega))
  have BX := Lib.hid (B9.put2 (.slice A9 N c9) (.int .i64 nx))
  have HN9 := Lib.hid (Nat.le_trans (Nat.le_trans HN8.out E9.size) M9.size)
  clear B9 M9 O9 HSET E9 HB8 HN8 E08 EW8
  go_upto_region 9 with fail
  generalize (w9.setCell _ _).setCell _ _ = w10 at *
  go_wp2_with (first
    | (refine wpList_load_mid rfl 39 _ rfl n7 (0 + 9) rfl (q.acts.map (Value.int .i64)) _ (acts_at (prAt_blk hqok BQ.out)) Tryz.underlying39 rfl (i32r hqok) ?_))
  refine (HEF.out _).mono ?_
  rintro e W9 ⟨rfl, E9⟩
  have OX := Lib.hid (OX.out.ext E9)
  have SX := Lib.hid (SX.out.ext E9)
  have BQ := Lib.hid (BQ.out.ext E9)
  have BX := Lib.hid (BX.out.ext E9)
  have EX := Lib.hid (EX.out.trans E9)
  have HN9 := Lib.hid (Nat.le_trans HN9.out E9.size)
  clear HEF E9 kb
  go_upto_region 10 with fail
  rcases HEC.out with h | h | h | h | h | h | h
  · subst h
    have HDD := Lib.hid (show TK = (L1, sg, 0) from HY.out.trans (by rw [doL_none (by decide) (by decide) (by decide)]))
    have HKK := HL1
    go_upto_region 23 with fail
    have kb := BX.out.two
    have ks := SX.out.two
    have M30 : Mod (fun k => k = w.heap.size + 1) W9 _ := ((Mod.refl _ W9).set1 (.slice A9 N c9) (o := 0)).set1 (.int .i64 nx) (o := 1)
    obtain ⟨q0, q1, _, _⟩ := (SX.out.put2 (.slice A9 N c9) (.int .i64 nx)).two
    have O30 := Lib.hid ((own_tbl OX.out M30 SX.out).lower (base' := w.heap.size) (by have := HN7.out; omega))
    have EE := Lib.hid (Mod.toExt EX.out M30 (by intro k hk he; omega))
    clear M30 BX SX OX EX
    go_wp2
    refine bodyPost_ret (v := .tuple #[tv A9 N c9 nx, .int .i64 sg, .int .i64 0]) (by simp [results, Tryz.results26, go_sem, q0, q1]) rfl ?_
    rw [HDD.out]
    refine ⟨A9, c9, by rw [HKK.out], .inr ?_, EE.out⟩
    rw [HKK.out]
    exact O30.out
  · subst h
    have HDD := Lib.hid (show TK = ((finL L1 nx pid (1000 + sg)).1, sg, 1) from HY.out.trans (by rw [← HQP.out]; rfl))
    have hwr : IntKind.i64.wrap (1000 + sg) = 1000 + sg := IntWalk.i64_in _ (by omega)
    have hfn := rfinish_any (A := fun _ => False) A9 c9 L1 nx pid (1000 + sg) W9 (by rw [HL1.out]; exact rdy_pr (B := fun _ => False) OX.out.y) HBD1.out
    rw [HL1.out] at hfn
    have HFN := Lib.hid hfn
    clear hfn
    unfold RFinPost at HFN
    generalize finL L1 nx pid (1000 + sg) = FL at *
    have kb := BX.out.two
    go_wp2_with fail
    refine HFN.out.mono ?_
    rintro e w10 ⟨A10, c10, rfl, T10, E10⟩
    have O10 := own_tabR T10 (by rw [HL1.out]; exact OX.out) E10 (Nat.le_trans HN9.out (Nat.le_refl _))
    obtain ⟨K, hK⟩ : ∃ K, FL.1.length = K := ⟨_, rfl⟩
    rw [hK] at O10 ⊢
    have HKK := Lib.hid hK
    have B10 := BX.out.ext E10
    have M10 : Mod (fun k => k = w.heap.size) w10 _ := ((Mod.refl _ w10).set1 (.slice A10 K c10) (o := 0)).set1 (.int .i64 nx) (o := 1)
    have kb := B10.two
    have OX := Lib.hid (own_tbl O10 M10 B10)
    have SX := Lib.hid ((SX.out.ext E10).mod M10 (by show ¬ _ = _; omega))
    have EX := Lib.hid (Mod.toExt (EX.out.trans E10) M10 (by intro k hk he; omega))
    have BX := Lib.hid (B10.put2 (.slice A10 K c10) (.int .i64 nx))
    clear B10 M10 O10 T10 E10 HFN hK
    go_upto_region 23 with fail
    generalize (w10.setCell _ _).setCell _ _ = w11 at *
    go_upto_region 23 with fail
    have kb := BX.out.two
    have ks := SX.out.two
    have M30 : Mod (fun k => k = w.heap.size + 1) w11 _ := ((Mod.refl _ w11).set1 (.slice A10 K c10) (o := 0)).set1 (.int .i64 nx) (o := 1)
    obtain ⟨q0, q1, _, _⟩ := (SX.out.put2 (.slice A10 K c10) (.int .i64 nx)).two
    have O30 := Lib.hid ((own_tbl OX.out M30 SX.out).lower (base' := w.heap.size) (by have := HN7.out; omega))
    have EE := Lib.hid (Mod.toExt EX.out M30 (by intro k hk he; omega))
    clear M30 BX SX OX EX
    go_wp2
    refine bodyPost_ret (v := .tuple #[tv A10 K c10 nx, .int .i64 sg, .int .i64 1]) (by simp [results, Tryz.results26, go_sem, q0, q1]) rfl ?_
    rw [HDD.out]
    refine ⟨A10, c10, by rw [HKK.out], .inr ?_, EE.out⟩
    rw [HKK.out]
    exact O30.out
  · subst h
    have HDD := Lib.hid (show TK = ((finL L1 nx pid (2000 + sg)).1, sg, 2) from HY.out.trans (by rw [← HQP.out]; rfl))
    have hwr : IntKind.i64.wrap (2000 + sg) = 2000 + sg := IntWalk.i64_in _ (by omega)
    have hfn := rfinish_any (A := fun _ => False) A9 c9 L1 nx pid (2000 + sg) W9 (by rw [HL1.out]; exact rdy_pr (B := fun _ => False) OX.out.y) HBD1.out
    rw [HL1.out] at hfn
    have HFN := Lib.hid hfn
    clear hfn
    unfold RFinPost at HFN
    generalize finL L1 nx pid (2000 + sg) = FL at *
    have kb := BX.out.two
    go_wp2_with fail
    refine HFN.out.mono ?_
    rintro e w10 ⟨A10, c10, rfl, T10, E10⟩
    have O10 := own_tabR T10 (by rw [HL1.out]; exact OX.out) E10 (Nat.le_trans HN9.out (Nat.le_refl _))
    obtain ⟨K, hK⟩ : ∃ K, FL.1.length = K := ⟨_, rfl⟩
    rw [hK] at O10 ⊢
    have HKK := Lib.hid hK
    have B10 := BX.out.ext E10
    have M10 : Mod (fun k => k = w.heap.size) w10 _ := ((Mod.refl _ w10).set1 (.slice A10 K c10) (o := 0)).set1 (.int .i64 nx) (o := 1)
    have kb := B10.two
    have OX := Lib.hid (own_tbl O10 M10 B10)
    have SX := Lib.hid ((SX.out.ext E10).mod M10 (by show ¬ _ = _; omega))
    have EX := Lib.hid (Mod.toExt (EX.out.trans E10) M10 (by intro k hk he; omega))
    have BX := Lib.hid (B10.put2 (.slice A10 K c10) (.int .i64 nx))
    clear B10 M10 O10 T10 E10 HFN hK
    go_upto_region 23 with fail
    generalize (w10.setCell _ _).setCell _ _ = w11 at *
    go_upto_region 23 with fail
    have kb := BX.out.two
    have ks := SX.out.two
    have M30 : Mod (fun k => k = w.heap.size + 1) w11 _ := ((Mod.refl _ w11).set1 (.slice A10 K c10) (o := 0)).set1 (.int .i64 nx) (o := 1)
    obtain ⟨q0, q1, _, _⟩ := (SX.out.put2 (.slice A10 K c10) (.int .i64 nx)).two
    have O30 := Lib.hid ((own_tbl OX.out M30 SX.out).lower (base' := w.heap.size) (by have := HN7.out; omega))
    have EE := Lib.hid (Mod.toExt EX.out M30 (by intro k hk he; omega))
    clear M30 BX SX OX EX
    go_wp2
    refine bodyPost_ret (v := .tuple #[tv A10 K c10 nx, .int .i64 sg, .int .i64 2]) (by simp [results, Tryz.results26, go_sem, q0, q1]) rfl ?_
    rw [HDD.out]
    refine ⟨A10, c10, by rw [HKK.out], .inr ?_, EE.out⟩
    rw [HKK.out]
    exact O30.out
  · subst h
    have HDD := Lib.hid (show TK = (L1, sg, 3) from HY.out.trans (by rw [doL_none (by decide) (by decide) (by decide)]))
    have HKK := HL1
    go_upto_region 23 with fail
    have kb := BX.out.two
    have ks := SX.out.two
    have M30 : Mod (fun k => k = w.heap.size + 1) W9 _ := ((Mod.refl _ W9).set1 (.slice A9 N c9) (o := 0)).set1 (.int .i64 nx) (o := 1)
    obtain ⟨q0, q1, _, _⟩ := (SX.out.put2 (.slice A9 N c9) (.int .i64 nx)).two
    have O30 := Lib.hid ((own_tbl OX.out M30 SX.out).lower (base' := w.heap.size) (by have := HN7.out; omega))
    have EE := Lib.hid (Mod.toExt EX.out M30 (by intro k hk he; omega))
    clear M30 BX SX OX EX
    go_wp2
    refine bodyPost_ret (v := .tuple #[tv A9 N c9 nx, .int .i64 sg, .int .i64 3]) (by simp [results, Tryz.results26, go_sem, q0, q1]) rfl ?_
    rw [HDD.out]
    refine ⟨A9, c9, by rw [HKK.out], .inr ?_, EE.out⟩
    rw [HKK.out]
    exact O30.out
  · subst h
    have kb := BX.out.two
    by_cases h19 : sg = 19
    · have HO := Lib.hid (show sg = 19 ∨ orphL L1 nx q.group = false from .inl h19)
      have n19 : (sg != 19) = false := by simpa using h19
      clear h19
      have HDD := Lib.hid (show TK = (stopL L1 nx q sg, sg, 4) from HY.out.trans (by rw [doL_stop HO.out]))
      go_upto_region 18 with fail
      have hwr : IntKind.i64.wrap (3000 + sg) = 3000 + sg := IntWalk.i64_in _ (by omega)
      have pc4 := (prAt_blk hqok BQ.out).c4
      have pc41 := (prAt_blk hqok BQ.out).c41
      have pc42 := (prAt_blk hqok BQ.out).c42
      have pf4 := BQ.out.frozen 4
      have pf41 := BQ.out.frozen 41
      have pf42 := BQ.out.frozen 42
      rw [Nat.zero_add] at pc4 pc41 pc42
      have hqa : q.acts.length = 32 := hqok
      have BQ3 := ((BQ.out.set_ 4 (.int .i64 2)).set_ 41 (.int .i64 (3000 + sg))).set_ 42 (.bool false)
      have hcs : ((q.cells.toArray.setIfInBounds 4 (.int .i64 2)).setIfInBounds 41 (.int .i64 (3000 + sg))).setIfInBounds 42 (.bool false) = (stopP sg q).cells.toArray := by simp [Pr.cells, stopP, hqa]
      rw [hcs] at BQ3
      have M18 : Mod (fun k => k = n7) W9 _ := (((Mod.refl _ W9).set1 (.int .i64 2) (o := 4)).set1 (.int .i64 (3000 + sg)) (o := 41)).set1 (.bool false) (o := 42)
      have BQ := Lib.hid BQ3
      have OX := Lib.hid (OX.out.mod M18 (fun k hk he => by have := (OX.out.row k hk).1; omega) (fun _ _ hk _ => hk))
      have BX := Lib.hid (BX.out.mod M18 (by show ¬ _ = _; have := HN7.out; omega))
      have SX := Lib.hid (SX.out.mod M18 (by show ¬ _ = _; have := HN7.out; omega))
      have EX := Lib.hid (Mod.toExt EX.out M18 (by intro k hk he; have := HN7.out; omega))
      have HN9 := Lib.hid (Nat.le_trans HN9.out M18.size)
      clear BQ3 M18 hqa hcs
      go_upto_region 19 with fail
      generalize ((W9.setCell _ _).setCell _ _).setCell _ _ = w19 at *
      clear pc4 pc41 pc42 pf4 pf41 pf42
      have hsok : (stopP sg q).ok := hqok
      have hset := rset_ok (A := fun _ => False) A9 c9 L1 nx (stopP sg q) w19 (by rw [HL1.out]; exact rdy_pr (B := fun _ => False) OX.out.y) hsok HR1.out
      rw [HL1.out] at hset
      have HSET := Lib.hid hset
      clear hset
      obtain ⟨L3, hL3⟩ : ∃ L3, changeL (fun _ => stopP sg q) (stopP sg q).pid L1 = L3 := ⟨_, rfl⟩
      have HL3 := Lib.hid (show L3.length = N by rw [← hL3, changeL_len]; exact HL1.out)
      have HBD3 := Lib.hid (show ∀ p ∈ L3, Sig.U64 p.pending by
        rw [← hL3]
        intro y hy
        rcases change_in hy with h1 | ⟨_, _, rfl⟩
        · exact HBD1.out y h1
        · exact HBQ.out)
      have HSTO := Lib.hid (show stopL L1 nx q sg = (sentL L3 nx q.parent 17).1 by rw [← hL3]; rfl)
      rw [hL3] at HSET
      have hpar : (stopP sg q).parent = q.parent := rfl
      have HPAR := Lib.hid hpar
      generalize stopP sg q = z at *
      clear hL3 hpar
      have kb := BX.out.two
      go_wp2_with (first
        | (refine wpList_load_row rfl 64 _ rfl _ rfl 64 _ _ _ BQ.out Tryz.underlying64 rfl (by rw [List.size_toArray]; exact i43r' hsok) ?_))
      refine HSET.out.mono ?_
      rintro e w20 ⟨A20, c20, rfl, O20, E20⟩
      have B20 := BX.out.ext E20
      have M20 : Mod (fun k => k = w.heap.size) w20 _ := ((Mod.refl _ w20).set1 (.slice A20 N c20) (o := 0)).set1 (.int .i64 nx) (o := 1)
      have kb := B20.two
      have OX := Lib.hid ((own_tbl O20 M20 B20).lower (base' := n7 + 1) HN9.out)
      have SX := Lib.hid ((SX.out.ext E20).mod M20 (by show ¬ _ = _; omega))
      have BQ := Lib.hid ((BQ.out.ext E20).mod M20 (by show ¬ _ = _; have := HN7.out; omega))
      have EX := Lib.hid (Mod.toExt (EX.out.trans E20) M20 (by intro k hk he; omega))
      have BX := Lib.hid (B20.put2 (.slice A20 N c20) (.int .i64 nx))
      have HN9 := Lib.hid (Nat.le_trans (Nat.le_trans HN9.out E20.size) M20.size)
      clear B20 M20 O20 HSET E20
      go_upto_region 20 with fail
      generalize (w20.setCell _ _).setCell _ _ = w21 at *
      have kb := BX.out.two
      have pc1 := (prAt_blk hsok BQ.out).c1
      rw [Nat.zero_add, HPAR.out] at pc1
      have hsn := rsent_to (A := fun _ => False) A20 c20 L3 nx q.parent 17 (.inr (.inl rfl)) w21 (by rw [HL3.out]; exact rdy_pr (B := fun _ => False) OX.out.y) HBD3.out
      unfold RSentPost at hsn
      rw [HL3.out] at hsn
      have HSN := Lib.hid hsn
      clear hsn
      go_wp2_with fail
      refine HSN.out.mono ?_
      rintro e w22 ⟨A22, c22, rfl, T22, E22⟩
      have hee := sentL_err (l := L3) (nx := nx) (k := q.parent) (sig := 17)
      have HLS := Lib.hid (show (sentL L3 nx q.parent 17).1.length = N by rw [sentL_len]; exact HL3.out)
      generalize (sentL L3 nx q.parent 17).2 = er at *
      obtain ⟨n12, hn12⟩ : ∃ n, w22.heap.size = n := ⟨_, rfl⟩
      obtain ⟨W23, hW23⟩ : ∃ W, W = w22.alloc (.cells #[.slice A22 N c22, .int .i64 nx] 33) := ⟨_, rfl⟩
      have B12 := Lib.hid (show Blk W23 n12 33 #[.slice A22 N c22, .int .i64 nx] by rw [hW23]; exact Blk.at_ _ _ hn12)
      have E223 : Ext w22 W23 := by rw [hW23]; exact (Ext.refl _).alloc _
      have HW23 := Lib.hid hW23
      have E23 := E22.trans E223
      have O22 := Lib.hid (show OwnS Rp 64 (n7 + 1) (fun _ => False) W23 (.slice A22 N c22) (sentL L3 nx q.parent 17).1 by
        rcases T22 with ⟨rfl, rfl, h3⟩ | h3
        · rw [h3]; exact OX.out.ext E23
        · rw [HL3.out] at h3; exact (h3.ext E223).lower HN9.out)
      have HOLD := Lib.hid (OX.out.ext E23)
      have HEE := Lib.hid hee
      clear hW23 hee T22 OX
      go_upto_region 21 with fail
      rw [← HW23.out]
      clear HW23 hn12
      have BX := Lib.hid (BX.out.ext E23)
      have SX := Lib.hid (SX.out.ext E23)
      have EX := Lib.hid (EX.out.trans E23)
      have kb := BX.out.two
      have k12 := B12.out.two
      by_cases he0 : er = 0
      · have heb : (er == 0) = true := by simpa using he0
        have M24 : Mod (fun k => k = w.heap.size) W23 _ := ((Mod.refl _ W23).set1 (.slice A22 N c22) (o := 0)).set1 (.int .i64 nx) (o := 1)
        have OX := Lib.hid (own_tbl O22.out M24 BX.out)
        have SX := Lib.hid (SX.out.mod M24 (by show ¬ _ = _; omega))
        have EX := Lib.hid (Mod.toExt EX.out M24 (by intro k hk he; omega))
        have BX := Lib.hid (BX.out.put2 (.slice A22 N c22) (.int .i64 nx))
        have HDD := Lib.hid (HDD.out.trans (by rw [HSTO.out]) : TK = ((sentL L3 nx q.parent 17).1, sg, 4))
        have HKK := HLS
        clear he0 M24 HOLD
        go_upto_region 23 with fail
        generalize (W23.setCell _ _).setCell _ _ = w24 at *
        go_upto_region 23 with fail
        have kb := BX.out.two
        have ks := SX.out.two
        have M30 : Mod (fun k => k = w.heap.size + 1) w24 _ := ((Mod.refl _ w24).set1 (.slice A22 N c22) (o := 0)).set1 (.int .i64 nx) (o := 1)
        obtain ⟨q0, q1, _, _⟩ := (SX.out.put2 (.slice A22 N c22) (.int .i64 nx)).two
        have O30 := Lib.hid ((own_tbl OX.out M30 SX.out).lower (base' := w.heap.size) (by have := HN7.out; omega))
        have EE := Lib.hid (Mod.toExt EX.out M30 (by intro k hk he; omega))
        clear M30 BX SX OX EX
        go_wp2
        refine bodyPost_ret (v := .tuple #[tv A22 N c22 nx, .int .i64 sg, .int .i64 4]) (by simp [results, Tryz.results26, go_sem, q0, q1]) rfl ?_
        rw [HDD.out]
        refine ⟨A22, c22, by rw [HKK.out], .inr ?_, EE.out⟩
        rw [HKK.out]
        exact O30.out
      · have heb : (er == 0) = false := by simpa using he0
        have HDD := Lib.hid (HDD.out.trans (by rw [HSTO.out, HEE.out he0]) : TK = (L3, sg, 4))
        have HKK := HL3
        have OX := HOLD
        clear he0
        go_upto_region 23 with fail
        have kb := BX.out.two
        have ks := SX.out.two
        have M30 : Mod (fun k => k = w.heap.size + 1) W23 _ := ((Mod.refl _ W23).set1 (.slice A20 N c20) (o := 0)).set1 (.int .i64 nx) (o := 1)
        obtain ⟨q0, q1, _, _⟩ := (SX.out.put2 (.slice A20 N c20) (.int .i64 nx)).two
        have O30 := Lib.hid ((own_tbl OX.out M30 SX.out).lower (base' := w.heap.size) (by have := HN7.out; omega))
        have EE := Lib.hid (Mod.toExt EX.out M30 (by intro k hk he; omega))
        clear M30 BX SX OX EX
        go_wp2
        refine bodyPost_ret (v := .tuple #[tv A20 N c20 nx, .int .i64 sg, .int .i64 4]) (by simp [results, Tryz.results26, go_sem, q0, q1]) rfl ?_
        rw [HDD.out]
        refine ⟨A20, c20, by rw [HKK.out], .inr ?_, EE.out⟩
        rw [HKK.out]
        exact O30.out
    · have n19 : (sg != 19) = true := by simpa using h19
      have H19 := Lib.hid h19
      clear h19
      have pc2 := (prAt_blk hqok BQ.out).c2
      rw [Nat.zero_add] at pc2
      have hor := rorphaned_any (A := fun _ => False) A9 c9 L1 nx q.group W9 (by rw [HL1.out]; exact rdy_pr (B := fun _ => False) OX.out.y)
      rw [HL1.out] at hor
      have HOR := Lib.hid hor
      clear hor
      go_wp2_with fail
      refine HOR.out.mono ?_
      rintro e w11 ⟨rfl, E11⟩
      have OX := Lib.hid (OX.out.ext E11)
      have SX := Lib.hid (SX.out.ext E11)
      have BQ := Lib.hid (BQ.out.ext E11)
      have BX := Lib.hid (BX.out.ext E11)
      have EX := Lib.hid (EX.out.trans E11)
      have HN9 := Lib.hid (Nat.le_trans HN9.out E11.size)
      clear HOR E11 kb pc2
      have kb := BX.out.two
      cases ho : orphL L1 nx q.group
      · have HO := Lib.hid (show sg = 19 ∨ orphL L1 nx q.group = false from .inr ho)
        clear ho
        have HDD := Lib.hid (show TK = (stopL L1 nx q sg, sg, 4) from HY.out.trans (by rw [doL_stop HO.out]))
        go_upto_region 18 with fail
        have hwr : IntKind.i64.wrap (3000 + sg) = 3000 + sg := IntWalk.i64_in _ (by omega)
        have pc4 := (prAt_blk hqok BQ.out).c4
        have pc41 := (prAt_blk hqok BQ.out).c41
        have pc42 := (prAt_blk hqok BQ.out).c42
        have pf4 := BQ.out.frozen 4
        have pf41 := BQ.out.frozen 41
        have pf42 := BQ.out.frozen 42
        rw [Nat.zero_add] at pc4 pc41 pc42
        have hqa : q.acts.length = 32 := hqok
        have BQ3 := ((BQ.out.set_ 4 (.int .i64 2)).set_ 41 (.int .i64 (3000 + sg))).set_ 42 (.bool false)
        have hcs : ((q.cells.toArray.setIfInBounds 4 (.int .i64 2)).setIfInBounds 41 (.int .i64 (3000 + sg))).setIfInBounds 42 (.bool false) = (stopP sg q).cells.toArray := by simp [Pr.cells, stopP, hqa]
        rw [hcs] at BQ3
        have M18 : Mod (fun k => k = n7) w11 _ := (((Mod.refl _ w11).set1 (.int .i64 2) (o := 4)).set1 (.int .i64 (3000 + sg)) (o := 41)).set1 (.bool false) (o := 42)
        have BQ := Lib.hid BQ3
        have OX := Lib.hid (OX.out.mod M18 (fun k hk he => by have := (OX.out.row k hk).1; omega) (fun _ _ hk _ => hk))
        have BX := Lib.hid (BX.out.mod M18 (by show ¬ _ = _; have := HN7.out; omega))
        have SX := Lib.hid (SX.out.mod M18 (by show ¬ _ = _; have := HN7.out; omega))
        have EX := Lib.hid (Mod.toExt EX.out M18 (by intro k hk he; have := HN7.out; omega))
        have HN9 := Lib.hid (Nat.le_trans HN9.out M18.size)
        clear BQ3 M18 hqa hcs
        go_upto_region 19 with fail
        generalize ((w11.setCell _ _).setCell _ _).setCell _ _ = w19 at *
        clear pc4 pc41 pc42 pf4 pf41 pf42
        have hsok : (stopP sg q).ok := hqok
        have hset := rset_ok (A := fun _ => False) A9 c9 L1 nx (stopP sg q) w19 (by rw [HL1.out]; exact rdy_pr (B := fun _ => False) OX.out.y) hsok HR1.out
        rw [HL1.out] at hset
        have HSET := Lib.hid hset
        clear hset
        obtain ⟨L3, hL3⟩ : ∃ L3, changeL (fun _ => stopP sg q) (stopP sg q).pid L1 = L3 := ⟨_, rfl⟩
        have HL3 := Lib.hid (show L3.length = N by rw [← hL3, changeL_len]; exact HL1.out)
        have HBD3 := Lib.hid (show ∀ p ∈ L3, Sig.U64 p.pending by
          rw [← hL3]
          intro y hy
          rcases change_in hy with h1 | ⟨_, _, rfl⟩
          · exact HBD1.out y h1
          · exact HBQ.out)
        have HSTO := Lib.hid (show stopL L1 nx q sg = (sentL L3 nx q.parent 17).1 by rw [← hL3]; rfl)
        rw [hL3] at HSET
        have hpar : (stopP sg q).parent = q.parent := rfl
        have HPAR := Lib.hid hpar
        generalize stopP sg q = z at *
        clear hL3 hpar
        have kb := BX.out.two
        go_wp2_with (first
          | (refine wpList_load_row rfl 64 _ rfl _ rfl 64 _ _ _ BQ.out Tryz.underlying64 rfl (by rw [List.size_toArray]; exact i43r' hsok) ?_))
        refine HSET.out.mono ?_
        rintro e w20 ⟨A20, c20, rfl, O20, E20⟩
        have B20 := BX.out.ext E20
        have M20 : Mod (fun k => k = w.heap.size) w20 _ := ((Mod.refl _ w20).set1 (.slice A20 N c20) (o := 0)).set1 (.int .i64 nx) (o := 1)
        have kb := B20.two
        have OX := Lib.hid ((own_tbl O20 M20 B20).lower (base' := n7 + 1) HN9.out)
        have SX := Lib.hid ((SX.out.ext E20).mod M20 (by show ¬ _ = _; omega))
        have BQ := Lib.hid ((BQ.out.ext E20).mod M20 (by show ¬ _ = _; have := HN7.out; omega))
        have EX := Lib.hid (Mod.toExt (EX.out.trans E20) M20 (by intro k hk he; omega))
        have BX := Lib.hid (B20.put2 (.slice A20 N c20) (.int .i64 nx))
        have HN9 := Lib.hid (Nat.le_trans (Nat.le_trans HN9.out E20.size) M20.size)
        clear B20 M20 O20 HSET E20
        go_upto_region 20 with fail
        generalize (w20.setCell _ _).setCell _ _ = w21 at *
        have kb := BX.out.two
        have pc1 := (prAt_blk hsok BQ.out).c1
        rw [Nat.zero_add, HPAR.out] at pc1
        have hsn := rsent_to (A := fun _ => False) A20 c20 L3 nx q.parent 17 (.inr (.inl rfl)) w21 (by rw [HL3.out]; exact rdy_pr (B := fun _ => False) OX.out.y) HBD3.out
        unfold RSentPost at hsn
        rw [HL3.out] at hsn
        have HSN := Lib.hid hsn
        clear hsn
        go_wp2_with fail
        refine HSN.out.mono ?_
        rintro e w22 ⟨A22, c22, rfl, T22, E22⟩
        have hee := sentL_err (l := L3) (nx := nx) (k := q.parent) (sig := 17)
        have HLS := Lib.hid (show (sentL L3 nx q.parent 17).1.length = N by rw [sentL_len]; exact HL3.out)
        generalize (sentL L3 nx q.parent 17).2 = er at *
        obtain ⟨n12, hn12⟩ : ∃ n, w22.heap.size = n := ⟨_, rfl⟩
        obtain ⟨W23, hW23⟩ : ∃ W, W = w22.alloc (.cells #[.slice A22 N c22, .int .i64 nx] 33) := ⟨_, rfl⟩
        have B12 := Lib.hid (show Blk W23 n12 33 #[.slice A22 N c22, .int .i64 nx] by rw [hW23]; exact Blk.at_ _ _ hn12)
        have E223 : Ext w22 W23 := by rw [hW23]; exact (Ext.refl _).alloc _
        have HW23 := Lib.hid hW23
        have E23 := E22.trans E223
        have O22 := Lib.hid (show OwnS Rp 64 (n7 + 1) (fun _ => False) W23 (.slice A22 N c22) (sentL L3 nx q.parent 17).1 by
          rcases T22 with ⟨rfl, rfl, h3⟩ | h3
          · rw [h3]; exact OX.out.ext E23
          · rw [HL3.out] at h3; exact (h3.ext E223).lower HN9.out)
        have HOLD := Lib.hid (OX.out.ext E23)
        have HEE := Lib.hid hee
        clear hW23 hee T22 OX
        go_upto_region 21 with fail
        rw [← HW23.out]
        clear HW23 hn12
        have BX := Lib.hid (BX.out.ext E23)
        have SX := Lib.hid (SX.out.ext E23)
        have EX := Lib.hid (EX.out.trans E23)
        have kb := BX.out.two
        have k12 := B12.out.two
        by_cases he0 : er = 0
        · have heb : (er == 0) = true := by simpa using he0
          have M24 : Mod (fun k => k = w.heap.size) W23 _ := ((Mod.refl _ W23).set1 (.slice A22 N c22) (o := 0)).set1 (.int .i64 nx) (o := 1)
          have OX := Lib.hid (own_tbl O22.out M24 BX.out)
          have SX := Lib.hid (SX.out.mod M24 (by show ¬ _ = _; omega))
          have EX := Lib.hid (Mod.toExt EX.out M24 (by intro k hk he; omega))
          have BX := Lib.hid (BX.out.put2 (.slice A22 N c22) (.int .i64 nx))
          have HDD := Lib.hid (HDD.out.trans (by rw [HSTO.out]) : TK = ((sentL L3 nx q.parent 17).1, sg, 4))
          have HKK := HLS
          clear he0 M24 HOLD
          go_upto_region 23 with fail
          generalize (W23.setCell _ _).setCell _ _ = w24 at *
          go_upto_region 23 with fail
          have kb := BX.out.two
          have ks := SX.out.two
          have M30 : Mod (fun k => k = w.heap.size + 1) w24 _ := ((Mod.refl _ w24).set1 (.slice A22 N c22) (o := 0)).set1 (.int .i64 nx) (o := 1)
          obtain ⟨q0, q1, _, _⟩ := (SX.out.put2 (.slice A22 N c22) (.int .i64 nx)).two
          have O30 := Lib.hid ((own_tbl OX.out M30 SX.out).lower (base' := w.heap.size) (by have := HN7.out; omega))
          have EE := Lib.hid (Mod.toExt EX.out M30 (by intro k hk he; omega))
          clear M30 BX SX OX EX
          go_wp2
          refine bodyPost_ret (v := .tuple #[tv A22 N c22 nx, .int .i64 sg, .int .i64 4]) (by simp [results, Tryz.results26, go_sem, q0, q1]) rfl ?_
          rw [HDD.out]
          refine ⟨A22, c22, by rw [HKK.out], .inr ?_, EE.out⟩
          rw [HKK.out]
          exact O30.out
        · have heb : (er == 0) = false := by simpa using he0
          have HDD := Lib.hid (HDD.out.trans (by rw [HSTO.out, HEE.out he0]) : TK = (L3, sg, 4))
          have HKK := HL3
          have OX := HOLD
          clear he0
          go_upto_region 23 with fail
          have kb := BX.out.two
          have ks := SX.out.two
          have M30 : Mod (fun k => k = w.heap.size + 1) W23 _ := ((Mod.refl _ W23).set1 (.slice A20 N c20) (o := 0)).set1 (.int .i64 nx) (o := 1)
          obtain ⟨q0, q1, _, _⟩ := (SX.out.put2 (.slice A20 N c20) (.int .i64 nx)).two
          have O30 := Lib.hid ((own_tbl OX.out M30 SX.out).lower (base' := w.heap.size) (by have := HN7.out; omega))
          have EE := Lib.hid (Mod.toExt EX.out M30 (by intro k hk he; omega))
          clear M30 BX SX OX EX
          go_wp2
          refine bodyPost_ret (v := .tuple #[tv A20 N c20 nx, .int .i64 sg, .int .i64 4]) (by simp [results, Tryz.results26, go_sem, q0, q1]) rfl ?_
          rw [HDD.out]
          refine ⟨A20, c20, by rw [HKK.out], .inr ?_, EE.out⟩
          rw [HKK.out]
          exact O30.out
      · have HDD := Lib.hid (show TK = (L1, sg, 3) from HY.out.trans (by rw [doL_orph ⟨H19.out, ho⟩]))
        have HKK := HL1
        clear ho
        go_upto_region 17 with fail
        have kb := BX.out.two
        have ks := SX.out.two
        have M30 : Mod (fun k => k = w.heap.size + 1) w11 _ := ((Mod.refl _ w11).set1 (.slice A9 N c9) (o := 0)).set1 (.int .i64 nx) (o := 1)
        obtain ⟨q0, q1, _, _⟩ := (SX.out.put2 (.slice A9 N c9) (.int .i64 nx)).two
        have O30 := Lib.hid ((own_tbl OX.out M30 SX.out).lower (base' := w.heap.size) (by have := HN7.out; omega))
        have EE := Lib.hid (Mod.toExt EX.out M30 (by intro k hk he; omega))
        clear M30 BX SX OX EX
        go_wp2
        refine bodyPost_ret (v := .tuple #[tv A9 N c9 nx, .int .i64 sg, .int .i64 3]) (by simp [results, Tryz.results26, go_sem, q0, q1]) rfl ?_
        rw [HDD.out]
        refine ⟨A9, c9, by rw [HKK.out], .inr ?_, EE.out⟩
        rw [HKK.out]
        exact O30.out
  · subst h
    have HDD := Lib.hid (show TK = (L1, sg, 5) from HY.out.trans (by rw [doL_none (by decide) (by decide) (by decide)]))
    have HKK := HL1
    go_upto_region 23 with fail
    have kb := BX.out.two
    have ks := SX.out.two
    have M30 : Mod (fun k => k = w.heap.size + 1) W9 _ := ((Mod.refl _ W9).set1 (.slice A9 N c9) (o := 0)).set1 (.int .i64 nx) (o := 1)
    obtain ⟨q0, q1, _, _⟩ := (SX.out.put2 (.slice A9 N c9) (.int .i64 nx)).two
    have O30 := Lib.hid ((own_tbl OX.out M30 SX.out).lower (base' := w.heap.size) (by have := HN7.out; omega))
    have EE := Lib.hid (Mod.toExt EX.out M30 (by intro k hk he; omega))
    clear M30 BX SX OX EX
    go_wp2
    refine bodyPost_ret (v := .tuple #[tv A9 N c9 nx, .int .i64 sg, .int .i64 5]) (by simp [results, Tryz.results26, go_sem, q0, q1]) rfl ?_
    rw [HDD.out]
    refine ⟨A9, c9, by rw [HKK.out], .inr ?_, EE.out⟩
    rw [HKK.out]
    exact O30.out
  · subst h
    have HDD := Lib.hid (show TK = (L1, sg, 6) from HY.out.trans (by rw [doL_none (by decide) (by decide) (by decide)]))
    have HKK := HL1
    go_upto_region 23 with fail
    have kb := BX.out.two
    have ks := SX.out.two
    have M30 : Mod (fun k => k = w.heap.size + 1) W9 _ := ((Mod.refl _ W9).set1 (.slice A9 N c9) (o := 0)).set1 (.int .i64 nx) (o := 1)
    obtain ⟨q0, q1, _, _⟩ := (SX.out.put2 (.slice A9 N c9) (.int .i64 nx)).two
    have O30 := Lib.hid ((own_tbl OX.out M30 SX.out).lower (base' := w.heap.size) (by have := HN7.out; omega))
    have EE := Lib.hid (Mod.toExt EX.out M30 (by intro k hk he; omega))
    clear M30 BX SX OX EX
    go_wp2
    refine bodyPost_ret (v := .tuple #[tv A9 N c9 nx, .int .i64 sg, .int .i64 6]) (by simp [results, Tryz.results26, go_sem, q0, q1]) rfl ?_
    rw [HDD.out]
    refine ⟨A9, c9, by rw [HKK.out], .inr ?_, EE.out⟩
    rw [HKK.out]
    exact O30.out
end Go.Proofs.YteljobleojhgmaaGreat
