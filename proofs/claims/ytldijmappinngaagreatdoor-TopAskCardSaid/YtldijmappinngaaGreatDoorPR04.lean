/- TopAsk walked: for every request, channel and wish it answers true. No condition but that the arguments are as they are read. -/
import Derived.Test.YtldijmappinngaaGreatDoorPQ04
namespace Go.Proofs.YtldijmappinngaaGreatDoor
open Go.RowKit Go.Kb Go.Kb.Frame
set_option maxRecDepth 100000

set_option maxHeartbeats 6000000 in
theorem topAsk_walk (r : Rq) (v : Value) (ch : Int) (wa : Bool) (w : World) (h : RdY Ub8 (fun _ => True) w v r.mo) (hr : r.Raw) (hc : 0 ≤ ch ∧ ch ≤ 4294967295) :
    Calls Tryz.prog 4 #[.agg (rqA r v), .int .u32 ch, .bool wa] w fun e w' => e = .returned (.bool true) ∧ Ext w w' := by
  have hiQ : (Tryz.prog.info? 47).map (·.size) = some 11 := by kernel_rfl
  have hiM : (Tryz.prog.info? 28).map (·.size) = some 10 := by kernel_rfl
  have hiF : (Tryz.prog.info? 36).map (·.size) = some 2 := by kernel_rfl
  obtain ⟨Av, cv, rfl, -, -⟩ := h.shape
  have HD := Lib.hid (show RdS Ub8 (fun j => j < w.heap.size) w (.slice Av r.mo.length cv) r.mo from by
    refine ⟨h.lt.mono (B := fun j => j < w.heap.size) (fun j _ hj => hj.2), fun hn j hj => ?_⟩
    exact RdN.lt_own (RdY.ri h) hn (by omega) j hj)
  have HRAW := Lib.hid hr
  have HC := Lib.hid hc
  obtain ⟨W1, hW1⟩ : ∃ W1, W1 = w.alloc (.cells (rqA r (.slice Av r.mo.length cv)) 47) := ⟨_, rfl⟩
  have E1 : Ext w W1 := by rw [hW1]; exact (Ext.refl _).alloc _
  have P1 := Lib.hid (show Blk W1 w.heap.size 47 (rqA r (.slice Av r.mo.length cv)) by rw [hW1]; exact Blk.new w _ _)
  have HW1 := Lib.hid hW1
  clear h hr hc hW1
  go_enter Tryz.func4, Tryz.ntmps4
  go_upto_region 1 with fail
  rw [← HW1.out]
  clear HW1
  generalize Value.agg (rqA r (.slice Av r.mo.length cv)) = z0
  go_wp2_with fail
  refine (shaken_any _).mono ?_
  rintro e w2 ⟨rfl, E2⟩
  have P2 := Lib.hid (P1.out.ext E2)
  have E02 := E1.trans E2
  clear P1 E1 E2
  go_wp2_with (first | (refine wpList_load_row rfl 47 _ rfl _ rfl 47 _ _ _ P2.out Tryz.underlying47 rfl hiQ ?_) | fail)
  refine (qgreat_any r Av cv _).mono ?_
  rintro e w3 ⟨qg, rfl, hqg, E3⟩
  have P3 := Lib.hid (P2.out.ext E3)
  have E03 := E02.trans E3
  clear P2 E02 E3
  cases qg with
  | true =>
    clear hqg
    go_wp2
    go_ret
    exact ⟨rfl, E03⟩
  | false =>
    obtain ⟨g1, g2, g3, g4⟩ := hqg rfl
    have HOK := Lib.hid (show r.Ok from ⟨g1, g2, g3, g4, HRAW.out.bs, HRAW.out.c1, HRAW.out.c2, HRAW.out.c3, HRAW.out.c4, HRAW.out.co⟩)
    clear hqg g1 g2 g3 g4 HRAW
    go_wp2_with (first | (refine wpList_load_row rfl 47 _ rfl _ rfl 47 _ _ _ P3.out Tryz.underlying47 rfl hiQ ?_) | fail)
    refine (qencode_any r (.slice Av r.mo.length cv) _ ((HD.out.ext E03).mono (fun j _ hj => by have := E03.size; omega)) HOK.out).mono ?_
    rintro e w4 ⟨nm, u, q, rfl, E4, hq0, hq1⟩
    have P4 := Lib.hid (P3.out.ext E4)
    have E04 := E03.trans E4
    by_cases hqz : q = 0
    · subst hqz
      obtain ⟨k, hk, h1, h10, rfl, ha, hown⟩ := hq0 rfl
      have HG := Lib.hid (mgQ_good HOK.out k hk h1 h10 ha ch wa HC.out)
      obtain ⟨Au, cu, rfl, -, -⟩ := hown.shape
      have HU := Lib.hid (show RdS Ub8 (fun j => j < w4.heap.size) w4 (.slice Au (mgQ r k ch wa).da.length cu) (mgQ r k ch wa).da from (hown.rd (A := fun _ => True) (fun _ _ => trivial) (fun _ _ => trivial)).lt.mono (fun j _ hj => hj.2))
      have HK := Lib.hid (show r.k = (k : Int) ∧ 1 ≤ k ∧ k ≤ 10 ∧ askQ r = 0 from ⟨hk, h1, h10, ha⟩)
      clear hq0 hq1 hown P3 E03 E4 hk h1 h10 ha
      go_wp2_with fail
      refine (encode_any (mgQ r k ch wa) (.slice Au (mgQ r k ch wa).da.length cu) _ HU.out HG.out.ok).mono ?_
      rintro e w5 ⟨u5, q5, rfl, E5, hq0, -, hq2⟩
      obtain rfl : q5 = 0 := hq2 psQ HG.out.row HG.out.fit HG.out.flt HG.out.len
      obtain ⟨ps5, hps5, -, -, -, hown⟩ := hq0 rfl
      obtain rfl : psQ = ps5 := Option.some.inj (HG.out.row.symm.trans hps5)
      have HGM := Lib.hid (show GoodM (mgQ r k ch wa) from ⟨HG.out.ok, psQ, HG.out.row, HG.out.fit, HG.out.flt, HG.out.len⟩)
      have HEM := Lib.hid (show encM (mgQ r k ch wa) = encL (flds (mgQ r k ch wa) psQ) from by unfold encM; rw [HG.out.row])
      rw [← HEM.out] at hown
      have hle := encM_len HGM.out
      have HRI := Lib.hid (RdS.ri hown.rdT)
      obtain ⟨A5, c5, rfl, -, -⟩ := hown.shape
      have P5 := Lib.hid (P4.out.ext E5)
      have E05 := E04.trans E5
      clear hq0 hq2 hps5 hown P4 E04 E5 HU
      go_wp2_with fail
      refine (Fr.put_any _ (encM (mgQ r k ch wa)) _ HRI.out (by omega)).mono ?_
      rintro e w6 ⟨v6, rfl, o6, E6⟩
      rw [Fr.fput_yes hle] at o6 ⊢
      have P6 := Lib.hid (P5.out.ext E6)
      have E06 := E05.trans E6
      have R6 := Lib.hid (Fr.OwnB.rd o6)
      obtain ⟨A6, c6, rfl⟩ := own_shape o6
      obtain ⟨PL, hPL⟩ : ∃ PL, (Fr.four ((encM (mgQ r k ch wa)).length : Int) ++ encM (mgQ r k ch wa)).length = PL := ⟨_, rfl⟩
      have R6 := Lib.hid (show RdN w6 1 (.slice A6 PL c6) (Fr.four ((encM (mgQ r k ch wa)).length : Int) ++ encM (mgQ r k ch wa)).length (u8s (Fr.four ((encM (mgQ r k ch wa)).length : Int) ++ encM (mgQ r k ch wa))) by have h9 := R6.out; rw [← hPL]; exact h9)
      rw [hPL]
      have hbs := encM_bs HGM.out
      have hbs6 : Bs (Fr.four ((encM (mgQ r k ch wa)).length : Int) ++ encM (mgQ r k ch wa)) := by
        intro x hx
        rcases List.mem_append.1 hx with hx | hx
        · exact fours_bs _ (by omega) (by omega) x hx
        · exact hbs x hx
      have hl6 : (Fr.four ((encM (mgQ r k ch wa)).length : Int) ++ encM (mgQ r k ch wa)).length ≤ 40000000 := by rw [List.length_append]; simp [Fr.four]; omega
      have HFE := Lib.hid (Fr.feed_any (.slice none 0 0) _ false [] _ w6 (RdN.nil _ _) R6.out (by intro x hx; simp at hx) hbs6 (by simp) hl6)
      clear o6 P5 E05 E6 hbs hbs6 hl6 R6 HRI hPL
      go_wp2_with fail
      refine (HFE.out).mono ?_
      rintro e w7 ⟨rv, lv, rfl, ⟨vs7, mid, o7, _, r7⟩, E7⟩
      rw [feed_one hle] at o7 r7 ⊢
      obtain ⟨A7, c7, rfl⟩ := own_shape r7
      obtain ⟨g7, d7, A8, c8, rfl, hg7, hcell, hrd⟩ := o7.one
      have P7 := Lib.hid (P6.out.ext E7)
      have E07 := E06.trans E7
      have R7 := Lib.hid (show RI .u8 w7 _ (encL (flds (mgQ r k ch wa) psQ)) from by rw [← HEM.out]; exact hrd)
      clear o7 r7 P6 E06 E7 hrd HFE
      obtain ⟨EL, hEL⟩ : ∃ EL, (encM (mgQ r k ch wa)).length = EL := ⟨_, rfl⟩
      have R7 := Lib.hid (show RdN w7 1 (.slice A8 EL c8) (encL (flds (mgQ r k ch wa) psQ)).length (u8s (encL (flds (mgQ r k ch wa) psQ))) by rw [← hEL]; exact R7.out)
      rw [hEL] at hcell hle
      clear hEL
      go_upto_region 13 with (refine wpList_store_M rfl 36 _ _ rfl w7.heap.size _ rfl rfl 36 _ (Blk.new _ _ _) hiF rfl (by simp [Value.oneCell']) ?_; intro w8 P8 M8)
      have E8 : Ext w7 w8 := Mod.toExt ((Ext.refl w7).alloc _) M8 (fun j hj he => by omega)
      have P7 := Lib.hid (P7.out.ext E8)
      have E08 := E07.trans E8
      have hcell := cell_ext E8 hcell
      have HDC := Lib.hid (decode_any (mgQ r k ch wa) psQ (.slice A8 EL c8) w8 (RdN.ext R7.out E8) HG.out.row HG.out.ok HG.out.flt HG.out.fit)
      clear M8 P8 E07 E8 R7
      go_wp2_with fail
      refine (HDC.out).mono ?_
      rintro e w9 ⟨vd, rfl, TD, E9⟩
      rw [HG.out.own] at TD ⊢
      obtain ⟨Ad, cd, rfl, -, -⟩ := TD.shape
      have P9 := Lib.hid (P7.out.ext E9)
      have E09 := E08.trans E9
      obtain ⟨LD, hLD⟩ : ∃ LD, (mgQ r k ch wa).da.length = LD := ⟨_, rfl⟩
      have TD := Lib.hid (show RdN w9 1 (.slice Ad LD cd) (encL (fldsQ r k)).length (u8s (encL (fldsQ r k))) by rw [← hLD]; exact RdS.ri TD)
      rw [hLD]
      rw [show mgA (mgQ r k ch wa) (.slice Ad LD cd) = #[.int .i64 98, .int .u32 ch, .int .u32 0, .int .u32 0, .int .u32 0, .int .u32 0, .string (nmQ k), .string ⟨#[]⟩, .bool wa, .slice Ad LD cd] from rfl]
      clear hcell P7 E08 E9 HDC hLD
      go_upto_region 14 with (refine wpList_store_M rfl 28 _ _ rfl w9.heap.size _ rfl rfl 28 _ (Blk.new _ _ _) hiM rfl (by simp [Value.oneCell']) ?_; intro w10 P10 M10)
      have E10 : Ext w9 w10 := Mod.toExt ((Ext.refl w9).alloc _) M10 (fun j hj he => by omega)
      have P9 := Lib.hid (P9.out.ext E10)
      have E010 := E09.trans E10
      have HDQ := Lib.hid (qdecode_any r k (.slice Ad LD cd) w10 (RdN.ext TD.out E10) HK.out.1 HK.out.2.1 HK.out.2.2.1 HK.out.2.2.2 HOK.out)
      obtain ⟨n10, hn10⟩ : ∃ n10, w9.heap.size = n10 := ⟨_, rfl⟩
      rw [hn10] at P10 ⊢
      have k6 := P10.cell 6
      have k9 := P10.cell 9
      simp only [List.getElem?_toArray, List.getElem?_cons_succ, List.getElem?_cons_zero] at k6 k9
      have P10 := Lib.hid P10
      clear M10 E09 E10 TD hn10
      go_wp2_with fail
      refine (HDQ.out).mono ?_
      rintro e w11 ⟨vq, rfl, TQ, E11⟩
      obtain ⟨om, hom⟩ : ∃ om, ownQ r k = om := ⟨_, rfl⟩
      rw [hom] at TQ ⊢
      have HOM := Lib.hid hom
      obtain ⟨Aq, cq, rfl, -, -⟩ := TQ.shape
      have P9 := Lib.hid (P9.out.ext E11)
      have P10 := Lib.hid (P10.out.ext E11)
      have E011 := E010.trans E11
      have TQ := Lib.hid TQ
      clear k6 k9 E010 E11 HDQ hom
      go_upto_region 15 with (refine wpList_store_M rfl 47 _ _ rfl w11.heap.size _ rfl rfl 47 _ (Blk.new _ _ _) hiQ rfl (by simp [Value.oneCell']) ?_; intro w12 P12 M12)
      have E12 : Ext w11 w12 := Mod.toExt ((Ext.refl w11).alloc _) M12 (fun j hj he => by omega)
      have P9 := Lib.hid (P9.out.ext E12)
      have P10 := Lib.hid (P10.out.ext E12)
      have TQ := Lib.hid (TQ.out.ext E12)
      have E012 := E011.trans E12
      obtain ⟨n12, hn12⟩ : ∃ n12, w11.heap.size = n12 := ⟨_, rfl⟩
      rw [hn12] at P12 ⊢
      have P12 := Lib.hid P12
      clear M12 E011 E12 hn12
      refine wp_region_held_drew (S := fun w' => Ext w12 w') (by kernel_rfl) (Ext.drew (Ext.refl _)) (fun hHeld => ?_)
      (refine wpAnyH_take (i := 0) (v := ?_) rfl (by kernel_rfl) (by kernel_rfl) (by kernel_rfl) (fun _ _ _ h => h) (Or.inl ⟨by rfl, ?_⟩) (by assumption) ?_; rotate_left; (focus (intro w' hSw; go_simp; try with_reducible rfl)); (try simp only [List.getElem_toArray]); (try simp only [List.getElem_cons_succ]); (try simp only [List.getElem_cons_zero]); (try simp only [Act.put]); (try simp only [List.setIfInBounds_toArray]); (try simp only [List.set_cons_succ]); (try simp only [List.set_cons_zero]))
      (refine wpAnyH_take (i := 1) (v := ?_) rfl (by kernel_rfl) (by kernel_rfl) (by kernel_rfl) (fun _ _ _ h => h) (Or.inl ⟨by rfl, ?_⟩) (by assumption) ?_; rotate_left; (focus (intro w' hSw; go_simp; try with_reducible rfl)); (try simp only [List.getElem_toArray]); (try simp only [List.getElem_cons_succ]); (try simp only [List.getElem_cons_zero]); (try simp only [Act.put]); (try simp only [List.setIfInBounds_toArray]); (try simp only [List.set_cons_succ]); (try simp only [List.set_cons_zero]))
      (refine wpAnyH_take (i := 2) (v := ?_) rfl (by kernel_rfl) (by kernel_rfl) (by kernel_rfl) (fun _ _ _ h => h) (Or.inl ⟨by rfl, ?_⟩) (by assumption) ?_; rotate_left; (focus (intro w' hSw; go_simp; try with_reducible rfl)); (try simp only [List.getElem_toArray]); (try simp only [List.getElem_cons_succ]); (try simp only [List.getElem_cons_zero]); (try simp only [Act.put]); (try simp only [List.setIfInBounds_toArray]); (try simp only [List.set_cons_succ]); (try simp only [List.set_cons_zero]))
      (refine wpAnyH_take (i := 3) (v := ?_) rfl (by kernel_rfl) (by kernel_rfl) (by kernel_rfl) (fun _ _ _ h => h) (Or.inl ⟨by rfl, ?_⟩) (by assumption) ?_; rotate_left; (focus (intro w' hSw; go_simp; try with_reducible rfl)); (try simp only [List.getElem_toArray]); (try simp only [List.getElem_cons_succ]); (try simp only [List.getElem_cons_zero]); (try simp only [Act.put]); (try simp only [List.setIfInBounds_toArray]); (try simp only [List.set_cons_succ]); (try simp only [List.set_cons_zero]))
      (refine wpAnyH_take (i := 4) (v := ?_) rfl (by kernel_rfl) (by kernel_rfl) (by kernel_rfl) (fun _ _ _ h => h) (Or.inl ⟨by rfl, ?_⟩) (by assumption) ?_; rotate_left; (focus (intro w' hSw; go_simp; try with_reducible rfl)); (try simp only [List.getElem_toArray]); (try simp only [List.getElem_cons_succ]); (try simp only [List.getElem_cons_zero]); (try simp only [Act.put]); (try simp only [List.setIfInBounds_toArray]); (try simp only [List.set_cons_succ]); (try simp only [List.set_cons_zero]))
      (refine wpAnyH_take (i := 5) (v := ?_) rfl (by kernel_rfl) (by kernel_rfl) (by kernel_rfl) (fun _ _ _ h => h) (Or.inl ⟨by rfl, ?_⟩) (by assumption) ?_; rotate_left; (focus (intro w' hSw; go_simp; try with_reducible rfl)); (try simp only [List.getElem_toArray]); (try simp only [List.getElem_cons_succ]); (try simp only [List.getElem_cons_zero]); (try simp only [Act.put]); (try simp only [List.setIfInBounds_toArray]); (try simp only [List.set_cons_succ]); (try simp only [List.set_cons_zero]))
      (refine wpAnyH_take (i := 6) (v := ?_) rfl (by kernel_rfl) (by kernel_rfl) (by kernel_rfl) (fun _ _ _ h => h) (Or.inl ⟨by rfl, ?_⟩) (by assumption) ?_; rotate_left; (focus (intro w' hSw; go_simp; try with_reducible rfl)); (try simp only [List.getElem_toArray]); (try simp only [List.getElem_cons_succ]); (try simp only [List.getElem_cons_zero]); (try simp only [Act.put]); (try simp only [List.setIfInBounds_toArray]); (try simp only [List.set_cons_succ]); (try simp only [List.set_cons_zero]))
      (refine wpAnyH_take (i := 7) (v := ?_) rfl (by kernel_rfl) (by kernel_rfl) (by kernel_rfl) (fun _ _ _ h => h) (Or.inl ⟨by rfl, ?_⟩) (by assumption) ?_; rotate_left; (focus (intro w' hSw; go_simp; try with_reducible rfl)); (try simp only [List.getElem_toArray]); (try simp only [List.getElem_cons_succ]); (try simp only [List.getElem_cons_zero]); (try simp only [Act.put]); (try simp only [List.setIfInBounds_toArray]); (try simp only [List.set_cons_succ]); (try simp only [List.set_cons_zero]))
      (refine wpAnyH_take (i := 8) (v := ?_) rfl (by kernel_rfl) (by kernel_rfl) (by kernel_rfl) (fun _ _ _ h => h) (Or.inl ⟨by rfl, ?_⟩) (by assumption) ?_; rotate_left; (focus (intro w' hSw; have kc := (P10.out.ext hSw).cell 0; go_simp; try with_reducible rfl)); (try simp only [List.getElem_toArray]); (try simp only [List.getElem_cons_succ]); (try simp only [List.getElem_cons_zero]); (try simp only [Act.put]); (try simp only [List.setIfInBounds_toArray]); (try simp only [List.set_cons_succ]); (try simp only [List.set_cons_zero]))
      (refine wpAnyH_take (i := 9) (v := ?_) rfl (by kernel_rfl) (by kernel_rfl) (by kernel_rfl) (fun _ _ _ h => h) (Or.inl ⟨by rfl, ?_⟩) (by assumption) ?_; rotate_left; (focus (intro w' hSw; go_simp; try with_reducible rfl)); (try simp only [List.getElem_toArray]); (try simp only [List.getElem_cons_succ]); (try simp only [List.getElem_cons_zero]); (try simp only [Act.put]); (try simp only [List.setIfInBounds_toArray]); (try simp only [List.set_cons_succ]); (try simp only [List.set_cons_zero]))
      (refine wpAnyH_take (i := 10) (v := ?_) rfl (by kernel_rfl) (by kernel_rfl) (by kernel_rfl) (fun _ _ _ h => h) (Or.inl ⟨by rfl, ?_⟩) (by assumption) ?_; rotate_left; (focus (intro w' hSw; go_simp; try with_reducible rfl)); (try simp only [List.getElem_toArray]); (try simp only [List.getElem_cons_succ]); (try simp only [List.getElem_cons_zero]); (try simp only [Act.put]); (try simp only [List.setIfInBounds_toArray]); (try simp only [List.set_cons_succ]); (try simp only [List.set_cons_zero]))
      (refine wpAnyH_take (i := 11) (v := ?_) rfl (by kernel_rfl) (by kernel_rfl) (by kernel_rfl) (fun _ _ _ h => h) (Or.inl ⟨by rfl, ?_⟩) (by assumption) ?_; rotate_left; (focus (intro w' hSw; go_simp; try with_reducible rfl)); (try simp only [List.getElem_toArray]); (try simp only [List.getElem_cons_succ]); (try simp only [List.getElem_cons_zero]); (try simp only [Act.put]); (try simp only [List.setIfInBounds_toArray]); (try simp only [List.set_cons_succ]); (try simp only [List.set_cons_zero]))
      (refine wpAnyH_take (i := 12) (v := ?_) rfl (by kernel_rfl) (by kernel_rfl) (by kernel_rfl) (fun _ _ _ h => h) (Or.inl ⟨by rfl, ?_⟩) (by assumption) ?_; rotate_left; (focus (intro w' hSw; go_simp; try with_reducible rfl)); (try simp only [List.getElem_toArray]); (try simp only [List.getElem_cons_succ]); (try simp only [List.getElem_cons_zero]); (try simp only [Act.put]); (try simp only [List.setIfInBounds_toArray]); (try simp only [List.set_cons_succ]); (try simp only [List.set_cons_zero]))
      (refine wpAnyH_take (i := 13) (v := ?_) rfl (by kernel_rfl) (by kernel_rfl) (by kernel_rfl) (fun _ _ _ h => h) (Or.inl ⟨by rfl, ?_⟩) (by assumption) ?_; rotate_left; (focus (intro w' hSw; have kc := (P10.out.ext hSw).cell 1; go_simp; try with_reducible rfl)); (try simp only [List.getElem_toArray]); (try simp only [List.getElem_cons_succ]); (try simp only [List.getElem_cons_zero]); (try simp only [Act.put]); (try simp only [List.setIfInBounds_toArray]); (try simp only [List.set_cons_succ]); (try simp only [List.set_cons_zero]))
      (refine wpAnyH_take (i := 14) (v := ?_) rfl (by kernel_rfl) (by kernel_rfl) (by kernel_rfl) (fun _ _ _ h => h) (Or.inl ⟨by rfl, ?_⟩) (by assumption) ?_; rotate_left; (focus (intro w' hSw; go_simp; try with_reducible rfl)); (try simp only [List.getElem_toArray]); (try simp only [List.getElem_cons_succ]); (try simp only [List.getElem_cons_zero]); (try simp only [Act.put]); (try simp only [List.setIfInBounds_toArray]); (try simp only [List.set_cons_succ]); (try simp only [List.set_cons_zero]))
      (refine wpAnyH_take (i := 15) (v := ?_) rfl (by kernel_rfl) (by kernel_rfl) (by kernel_rfl) (fun _ _ _ h => h) (Or.inl ⟨by rfl, ?_⟩) (by assumption) ?_; rotate_left; (focus (intro w' hSw; go_simp; try with_reducible rfl)); (try simp only [List.getElem_toArray]); (try simp only [List.getElem_cons_succ]); (try simp only [List.getElem_cons_zero]); (try simp only [Act.put]); (try simp only [List.setIfInBounds_toArray]); (try simp only [List.set_cons_succ]); (try simp only [List.set_cons_zero]))
      (refine wpAnyH_take (i := 16) (v := ?_) rfl (by kernel_rfl) (by kernel_rfl) (by kernel_rfl) (fun _ _ _ h => h) (Or.inl ⟨by rfl, ?_⟩) (by assumption) ?_; rotate_left; (focus (intro w' hSw; go_simp; try with_reducible rfl)); (try simp only [List.getElem_toArray]); (try simp only [List.getElem_cons_succ]); (try simp only [List.getElem_cons_zero]); (try simp only [Act.put]); (try simp only [List.setIfInBounds_toArray]); (try simp only [List.set_cons_succ]); (try simp only [List.set_cons_zero]))
      (refine wpAnyH_take (i := 17) (v := ?_) rfl (by kernel_rfl) (by kernel_rfl) (by kernel_rfl) (fun _ _ _ h => h) (Or.inl ⟨by rfl, ?_⟩) (by assumption) ?_; rotate_left; (focus (intro w' hSw; go_simp; try with_reducible rfl)); (try simp only [List.getElem_toArray]); (try simp only [List.getElem_cons_succ]); (try simp only [List.getElem_cons_zero]); (try simp only [Act.put]); (try simp only [List.setIfInBounds_toArray]); (try simp only [List.set_cons_succ]); (try simp only [List.set_cons_zero]))
      (refine wpAnyH_take (i := 18) (v := ?_) rfl (by kernel_rfl) (by kernel_rfl) (by kernel_rfl) (fun _ _ _ h => h) (Or.inl ⟨by rfl, ?_⟩) (by assumption) ?_; rotate_left; (focus (intro w' hSw; go_simp; try with_reducible rfl)); (try simp only [List.getElem_toArray]); (try simp only [List.getElem_cons_succ]); (try simp only [List.getElem_cons_zero]); (try simp only [Act.put]); (try simp only [List.setIfInBounds_toArray]); (try simp only [List.set_cons_succ]); (try simp only [List.set_cons_zero]))
      (refine wpAnyH_take (i := 19) (v := ?_) rfl (by kernel_rfl) (by kernel_rfl) (by kernel_rfl) (fun _ _ _ h => h) (Or.inl ⟨by rfl, ?_⟩) (by assumption) ?_; rotate_left; (focus (intro w' hSw; have kc := (P10.out.ext hSw).cell 8; go_simp; try with_reducible rfl)); (try simp only [List.getElem_toArray]); (try simp only [List.getElem_cons_succ]); (try simp only [List.getElem_cons_zero]); (try simp only [Act.put]); (try simp only [List.setIfInBounds_toArray]); (try simp only [List.set_cons_succ]); (try simp only [List.set_cons_zero]))
      (refine wpAnyH_take (i := 20) (v := ?_) rfl (by kernel_rfl) (by kernel_rfl) (by kernel_rfl) (fun _ _ _ h => h) (Or.inl ⟨by rfl, ?_⟩) (by assumption) ?_; rotate_left; (focus (intro w' hSw; go_simp; try with_reducible rfl)); (try simp only [List.getElem_toArray]); (try simp only [List.getElem_cons_succ]); (try simp only [List.getElem_cons_zero]); (try simp only [Act.put]); (try simp only [List.setIfInBounds_toArray]); (try simp only [List.set_cons_succ]); (try simp only [List.set_cons_zero]))
      (refine wpAnyH_take (i := 21) (v := ?_) rfl (by kernel_rfl) (by kernel_rfl) (by kernel_rfl) (fun _ _ _ h => h) (Or.inl ⟨by rfl, ?_⟩) (by assumption) ?_; rotate_left; (focus (intro w' hSw; go_simp; try with_reducible rfl)); (try simp only [List.getElem_toArray]); (try simp only [List.getElem_cons_succ]); (try simp only [List.getElem_cons_zero]); (try simp only [Act.put]); (try simp only [List.setIfInBounds_toArray]); (try simp only [List.set_cons_succ]); (try simp only [List.set_cons_zero]))
      (refine wpAnyH_take (i := 22) (v := ?_) rfl (by kernel_rfl) (by kernel_rfl) (by kernel_rfl) (fun _ _ _ h => h) (Or.inl ⟨by rfl, ?_⟩) (by assumption) ?_; rotate_left; (focus (intro w' hSw; go_simp; try with_reducible rfl)); (try simp only [List.getElem_toArray]); (try simp only [List.getElem_cons_succ]); (try simp only [List.getElem_cons_zero]); (try simp only [Act.put]); (try simp only [List.setIfInBounds_toArray]); (try simp only [List.set_cons_succ]); (try simp only [List.set_cons_zero]))
      (refine wpAnyH_take (i := 23) (v := ?_) rfl (by kernel_rfl) (by kernel_rfl) (by kernel_rfl) (fun _ _ _ h => h) (Or.inl ⟨by rfl, ?_⟩) (by assumption) ?_; rotate_left; (focus (intro w' hSw; go_simp; try with_reducible rfl)); (try simp only [List.getElem_toArray]); (try simp only [List.getElem_cons_succ]); (try simp only [List.getElem_cons_zero]); (try simp only [Act.put]); (try simp only [List.setIfInBounds_toArray]); (try simp only [List.set_cons_succ]); (try simp only [List.set_cons_zero]))
      (refine wpAnyH_take (i := 24) (v := .agg (rqA om (.slice Aq om.mo.length cq))) rfl (by kernel_rfl) (by kernel_rfl) (by kernel_rfl) (fun _ _ _ h => h) (yieldsIf_load_row (by rfl) 47 _ rfl _ rfl 47 (rqA om (.slice Aq om.mo.length cq)) _ _ (fun w' hSw => (P12.out.ext hSw)) Tryz.underlying47 rfl hiQ) (by assumption) ?_; (try simp only [Act.put]); (try simp only [List.getElem_toArray]); (try simp only [List.getElem_cons_succ]); (try simp only [List.getElem_cons_zero]); (try simp only [List.setIfInBounds_toArray]); (try simp only [List.set_cons_succ]); (try simp only [List.set_cons_zero]))
      (refine wpAnyH_take (i := 25) (v := .agg (rqA r (.slice Av r.mo.length cv))) rfl (by kernel_rfl) (by kernel_rfl) (by kernel_rfl) (fun _ _ _ h => h) (yieldsIf_load_row (by rfl) 47 _ rfl _ rfl 47 (rqA r (.slice Av r.mo.length cv)) _ _ (fun w' hSw => (P9.out.ext hSw)) Tryz.underlying47 rfl hiQ) (by assumption) ?_; (try simp only [Act.put]); (try simp only [List.getElem_toArray]); (try simp only [List.getElem_cons_succ]); (try simp only [List.getElem_cons_zero]); (try simp only [List.setIfInBounds_toArray]); (try simp only [List.set_cons_succ]); (try simp only [List.set_cons_zero]))
      (refine wpAnyH_ready (rs := [26]) (by kernel_rfl) (by simp) ?_; refine AllReadyH.cons rfl (fun K hK => ?_) AllReadyH.nil; go_simp; go_at_call 17; refine (qown_any r k Av r.mo.length cv _ HK.out.1 HK.out.2.1 HK.out.2.2.1).mono ?_; rintro e w13 ⟨vo, rfl, hvo, E13⟩; (try dsimp only); refine hK.out _ _ (Ext.trans (Ext.drew (Ext.refl _)) E13) (fun hHeld => ?_); clear hK K; (try simp only [Act.put]); (try simp only [List.getElem_toArray]); (try simp only [List.getElem_cons_succ]); (try simp only [List.getElem_cons_zero]); (try simp only [List.setIfInBounds_toArray]); (try simp only [List.set_cons_succ]); (try simp only [List.set_cons_zero]))
      rw [HOM.out] at hvo ⊢
      have HVO : RI .u8 w13 vo om.mo := by
        rcases hvo with ⟨h1, h2⟩ | ⟨h1, h2⟩
        · rw [h1, h2]; exact RdN.nil _ _
        · rw [h1, h2]; exact RdS.ri (HD.out.ext (E012.trans hHeld))
      have TQ13 := Lib.hid (RdS.ri (TQ.out.ext hHeld))
      obtain ⟨Ao, co, rfl, -, -⟩ := HVO.shape
      have HVO := Lib.hid HVO
      have E13h := hHeld
      clear hvo E13
      (refine wpAnyH_ready (rs := [27]) (by kernel_rfl) (by simp) ?_; refine AllReadyH.cons rfl (fun K hK => ?_) AllReadyH.nil; go_simp; go_at_call 16; refine (qsame_any om (.slice Aq om.mo.length cq) (.slice Ao om.mo.length co) _ TQ13.out HVO.out).mono ?_; rintro e w14 ⟨rfl, E14⟩; (try dsimp only); refine hK.out _ _ (E13h.trans E14) (fun hHeld => ?_); clear hK K; (try simp only [Act.put]); (try simp only [List.getElem_toArray]); (try simp only [List.getElem_cons_succ]); (try simp only [List.getElem_cons_zero]); (try simp only [List.setIfInBounds_toArray]); (try simp only [List.set_cons_succ]); (try simp only [List.set_cons_zero]))
      (refine wpAnyH_take (i := 28) (v := ?_) rfl (by kernel_rfl) (by kernel_rfl) (by kernel_rfl) (fun _ _ _ h => h) (Or.inl ⟨by rfl, ?_⟩) (by assumption) ?_; rotate_left; (focus (intro w' hSw; go_simp; try with_reducible rfl)); (try simp only [List.getElem_toArray]); (try simp only [List.getElem_cons_succ]); (try simp only [List.getElem_cons_zero]); (try simp only [Act.put]); (try simp only [List.setIfInBounds_toArray]); (try simp only [List.set_cons_succ]); (try simp only [List.set_cons_zero]))
      (refine wpAnyH_take (i := 29) (v := ?_) rfl (by kernel_rfl) (by kernel_rfl) (by kernel_rfl) (fun _ _ _ h => h) (Or.inl ⟨by rfl, ?_⟩) (by assumption) ?_; rotate_left; (focus (intro w' hSw; go_simp; try with_reducible rfl)); (try simp only [List.getElem_toArray]); (try simp only [List.getElem_cons_succ]); (try simp only [List.getElem_cons_zero]); (try simp only [Act.put]); (try simp only [List.setIfInBounds_toArray]); (try simp only [List.set_cons_succ]); (try simp only [List.set_cons_zero]))
      refine wpAnyH_done (by kernel_rfl) ?_ _
      go_wp2
      go_ret
      exact ⟨by simp, E012.trans hHeld⟩
    · obtain ⟨rfl, rfl⟩ := hq1 hqz
      have hqb : (q == 0) = false := by simpa using hqz
      clear hq0 hq1
      go_wp2
      go_ret
      exact ⟨rfl, E04⟩
end Go.Proofs.YtldijmappinngaaGreatDoor
