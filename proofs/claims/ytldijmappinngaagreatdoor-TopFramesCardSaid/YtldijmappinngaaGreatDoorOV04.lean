/- TopFrames walked: for every messages and step it answers true. No condition but that the arguments are as they are read. -/
import Derived.Test.YtldijmappinngaaGreatDoorOU04
import Derived.Test.YtldijmappinngaaGreatDoorSK17
namespace Go.Proofs.YtldijmappinngaaGreatDoor
open Go.RowKit Go.Kb Go.Kb.Frame
set_option maxRecDepth 100000

theorem info_msg : (Tryz.prog.info? 28).map (fun i => (i.zero, i.size, i.bytes)) = some (some (.agg #[.int .i64 0, .int .u32 0, .int .u32 0, .int .u32 0, .int .u32 0, .int .u32 0, .string ⟨#[]⟩, .string ⟨#[]⟩, .bool false, .slice none 0 0]), MgR.size, 96) := by kernel_rfl
/-- numbers that fit -/
structure Mg.Raw (m : Mg) : Prop where
  ch : 0 ≤ m.ch ∧ m.ch ≤ 4294967295
  se : 0 ≤ m.se ∧ m.se ≤ 4294967295
  wi : 0 ≤ m.wi ∧ m.wi ≤ 4294967295
  pk : 0 ≤ m.pk ∧ m.pk ≤ 4294967295
  co : 0 ≤ m.co ∧ m.co ≤ 4294967295
  bs : Bs m.da
theorem own_keep {D D2 : Type} {e : Rep D} {e2 : Rep D2} {T T2 : TypeId} {base base2 : Nat} {B B2 : Nat → Prop} {w w' : World} {v v2 : Value} {ds : List D} {ds2 : List D2} (h : OwnS e T base B w v ds) (h2 : OwnS e2 T2 base2 B2 w v2 ds2) (hne : T ≠ T2)
    (M : Mod (fun k => v2.ownBlock = some k) w w') (hB : ∀ k, B k → k < base2) : OwnS e T base B w' v ds := by
  refine h.mod M (fun k hk he => ?_) (fun k _ hb he => by have := (h2.row k he).1; have := hB k hb; omega)
  obtain ⟨us, ho, _⟩ := h
  obtain ⟨us2, ho2, _⟩ := h2
  rcases own_own_ne ho ho2 hne with h9 | h9
  · rw [hk] at h9; cases h9
  · exact h9 (hk.trans he.symm)
set_option maxHeartbeats 6000000 in
theorem topFrames_walk (v : Value) (ms : List Mg) (st : Int) (w : World) (h : RdY MgR (fun _ => True) w v ms) (hm : ∀ m ∈ ms, m.Raw) (hs : 0 ≤ st ∧ st ≤ 65535) :
    Calls Tryz.prog 3 #[v, .int .u16 st] w fun e w' => e = .returned (.bool true) ∧ Ext w w' := by
  have hiM : (Tryz.prog.info? 28).map (·.size) = some 10 := by kernel_rfl
  have hiML : ∀ m v, (Tryz.prog.info? 28).map (·.size) = some (mgA m v).toList.length := fun _ _ => hiM
  obtain ⟨A, c, rfl, hc1, hc2⟩ := h.shape
  have H := Lib.hid (h.lt.mono (B := fun k => k < w.heap.size) (fun k _ hk => hk.2))
  have HM := Lib.hid hm
  obtain ⟨N, hN⟩ : ∃ N, ms.length = N := ⟨_, rfl⟩
  have HN := Lib.hid hN
  rw [hN] at hc1 H ⊢
  clear h hm hN
  go_enter Tryz.func3, Tryz.ntmps3
  go_wp2_with fail
  refine (shaken_any _).mono ?_
  rintro e w1 ⟨rfl, E1⟩
  by_cases h10 : (10 : Int) < N
  · go_wp2
    go_ret
    exact ⟨rfl, E1⟩
  have hw1 := E1.size
  go_upto_region 7 with fail
  go_wp2
  go_loopw [5, 6, 29] (fun s t i wr => ∃ (j : Nat) (qs : List Mg), j ≤ N ∧ i = .int .i64 j ∧ qs.length ≤ j ∧ Hid (∀ m ∈ qs, GoodM m) ∧ Hid (OwnS Ub8 5 w1.heap.size (fun _ => False) wr s (strM qs)) ∧ Hid (OwnS MgR 28 w1.heap.size (fun k => k < w.heap.size) wr t (qs.map ownM)) ∧ Hid (Ext w1 wr)) (fun _ _ i _ => N - (intOf i).toNat)
  case atStart => exact ⟨0, [], Nat.zero_le _, rfl, Nat.le_refl _, Lib.hid (by simp), Lib.hid (OwnS.nil _ _ _ _ _), Lib.hid (OwnS.nil _ _ _ _ _), Lib.hid (Ext.refl _)⟩
  case round =>
    obtain ⟨j, qs, hj, rfl, hql, HG, HS, HW, hE⟩ := hrel
    by_cases hjn : j < N
    · obtain ⟨b, off, m, At, ct, rfl, hra, hd, ht⟩ := mg_at (H.out.ext (E1.trans hE.out)) hjn
      have hraw := Lib.hid (HM.out m (List.mem_of_getElem? hd.out))
      go_upto_region 10 with (refine wpList_load_mid rfl 28 _ rfl b (off + j * 10) rfl (mgA m (.slice At m.da.length ct)).toList _ hra.out Tryz.underlying28 rfl (hiML _ _) ?_)
      obtain ⟨W9, hW9⟩ : ∃ W9, W9 = wr.alloc (.cells (mgA m (.slice At m.da.length ct)) 28) := ⟨_, rfl⟩
      have E9 : Ext wr W9 := by rw [hW9]; exact (Ext.refl _).alloc _
      have P9 := Lib.hid (show Blk W9 wr.heap.size 28 (mgA m (.slice At m.da.length ct)) by rw [hW9]; exact Blk.new wr _ _)
      rw [← hW9]
      clear hW9
      obtain ⟨n9, hn9⟩ : ∃ n9, wr.heap.size = n9 := ⟨_, rfl⟩
      have hE9 := Lib.hid (hE.out.trans E9)
      have hT9 := Lib.hid (ht.out.ext E9)
      have HS := Lib.hid (HS.out.ext E9)
      have HW := Lib.hid (HW.out.ext E9)
      rw [hn9] at P9 ⊢
      clear E9 hn9 hra hE ht
      generalize Value.agg #[.int .i64 m.k, .int .u32 m.ch, .int .u32 m.se, .int .u32 m.wi, .int .u32 m.pk, .int .u32 m.co, .string m.nm, .string m.la, .bool m.wa, .slice At m.da.length ct] = z32
      go_wp2_with (first | (refine wpList_load_row rfl 28 _ rfl _ rfl 28 _ _ _ P9.out Tryz.underlying28 rfl hiM ?_) | fail)
      refine (mgreat_any m At ct _).mono ?_
      rintro e w10 ⟨qg, rfl, hqg, E10⟩
      cases qg with
      | true =>
        have EE : Ext w w10 := (E1.trans hE9.out).trans E10
        go_wp2
        go_ret
        exact ⟨rfl, EE⟩
      | false =>
        obtain ⟨hda, hnm, hla⟩ := hqg rfl
        have HOK := Lib.hid (show m.Ok from ⟨hraw.out.ch, hraw.out.se, hraw.out.wi, hraw.out.pk, hraw.out.co, hnm, hla, hda, hraw.out.bs⟩)
        have P9 := Lib.hid (P9.out.ext E10)
        have hE10 := Lib.hid (hE9.out.trans E10)
        have hT10 := Lib.hid (hT9.out.ext E10)
        have HS := Lib.hid (HS.out.ext E10)
        have HW := Lib.hid (HW.out.ext E10)
        clear hqg hda hnm hla hraw hE9 hT9 E10
        go_wp2_with (first | (refine wpList_load_row rfl 28 _ rfl _ rfl 28 _ _ _ P9.out Tryz.underlying28 rfl hiM ?_) | fail)
        refine (encode_any m (.slice At m.da.length ct) _ (hT10.out.mono (fun k hk _ => hk)) HOK.out).mono ?_
        rintro e w11 ⟨u, qe, rfl, E11, hq0, hq1⟩
        have P9 := Lib.hid (P9.out.ext E11)
        have hE11 := Lib.hid (hE10.out.trans E11)
        have hT11 := Lib.hid (hT10.out.ext E11)
        have HS := Lib.hid (HS.out.ext E11)
        have HW := Lib.hid (HW.out.ext E11)
        by_cases hqe : qe = 0
        · subst hqe
          obtain ⟨ps, hps, hfit, hfl, hlen, hown⟩ := hq0 rfl
          have hgood : GoodM m := ⟨HOK.out, ps, hps, hfit, hfl, hlen⟩
          have HGM := Lib.hid hgood
          have hle := encM_len hgood
          have hown2 : OwnS Ub8 5 w10.heap.size (fun _ => False) w11 u (encM m) := by
            unfold encM; rw [hps]; exact hown
          have HRI := Lib.hid (RdS.ri hown2.rdT)
          obtain ⟨Au, cu, rfl, -, -⟩ := hown2.shape
          have hfp := Fr.fput_yes hle
          clear hq0 hq1 hown hown2 hlen hgood
          go_wp2_with fail
          refine (Fr.put_any _ (encM m) _ HRI.out (by omega)).mono ?_
          rintro e w12 ⟨vp, rfl, op, E12⟩
          rw [hfp] at op ⊢
          have hplen : (Fr.four ((encM m).length : Int) ++ encM m).length = 4 + (encM m).length := by simp [Fr.four]; omega
          have HPY := Lib.hid (RI.y (A := fun _ => False) (Fr.OwnB.rd op))
          obtain ⟨Ap, cp, rfl⟩ := own_shape op
          rw [hplen] at HPY ⊢
          have P9 := Lib.hid (P9.out.ext E12)
          have hE12 := Lib.hid (hE11.out.trans E12)
          have hT12 := Lib.hid (hT11.out.ext E12)
          have HS := Lib.hid (HS.out.ext E12)
          have HW := Lib.hid (HW.out.ext E12)
          clear hfp op HRI hE10 hE11 hT10 hT11 E11 E12
          have hsl := strM_len qs HG.out
          have hsn : (strM qs ++ (Fr.four ((encM m).length : Int) ++ encM m)).length = (strM qs).length + (4 + (encM m).length) := by rw [List.length_append, hplen]
          have HSN := Lib.hid (strM_snoc qs m)
          obtain ⟨As, cs, rfl, -, -⟩ := HS.out.shape
          obtain ⟨Aw, cw, hwv, -, -⟩ := HW.out.shape
          rw [List.length_map] at hwv
          subst hwv
          obtain ⟨SL, hSL⟩ : ∃ SL, (strM qs).length = SL := ⟨_, rfl⟩
          obtain ⟨EL, hEL⟩ : ∃ EL, (encM m).length = EL := ⟨_, rfl⟩
          have HSL := Lib.hid hSL
          have HEL := Lib.hid hEL
          have HPL := Lib.hid hplen
          rw [hEL] at hle HPL HSN HPY ⊢
          rw [hSL] at hsl HS ⊢
          have hb12 := hE12.out.size
          clear hplen hsn hSL hEL
          go_upto_region 18 with (at_builtin; refine wpList_app (e := Ub8) (base := w1.heap.size) (B := fun _ => False) (A := fun _ => False) rfl (.tmp 49) (.tmp 50) rfl Tryz.underlying25 info_ub8 rfl HS.out rfl HPY.out rfl (fun k _ hk => hk.elim) (N := SL + (4 + EL)) (by rw [HSL.out, HPL.out]) (by unfold maxLen; omega) (by omega) (by omega) ?_; intro A13 c13 w13 o13 M13 L13)
          rw [← HSN.out] at o13
          have HW13 := Lib.hid (own_keep HW.out HS.out (by decide) M13 (fun k hk => by omega))
          have P13 := Lib.hid (OwnS.blk HS.out M13 P9.out (by decide))
          have HS13 := Lib.hid o13
          have hrow := HS.out.row
          have hE13 := Lib.hid (Mod.toExt hE12.out M13 (fun k hk he => by have := (hrow k he).1; omega))
          have hT13 := Lib.hid (hT12.out.mod M13 (fun k _ hk he => by have := (hrow k he).1; omega))
          clear o13 M13 L13 HW HS P9 hE12 hT12 hrow HPY
          go_wp2_with (first | (refine wpList_load_row rfl 28 _ rfl _ rfl 28 _ _ _ P13.out Tryz.underlying28 rfl hiM ?_) | fail)
          refine (mown_any m (.slice At m.da.length ct) _ ⟨_, _, _, rfl⟩).mono ?_
          rintro e w14 ⟨vo, rfl, hvo, E14⟩
          have HTO := Lib.hid (show RdS Ub8 (fun k => k < w.heap.size) w14 vo (ownM m).da from by
            rcases hvo with ⟨h1, h2⟩ | ⟨h1, h2⟩
            · rw [h1, h2]; exact RdS.nil _ _ _
            · rw [h1, h2]; exact (hT13.out.ext E14).mono (fun k _ hk => by first | exact hk | exact hk.1 | omega))
          have HS14 := Lib.hid (HS13.out.ext E14)
          have HW14 := Lib.hid (HW13.out.ext E14)
          have hE14 := Lib.hid (hE13.out.trans E14)
          obtain ⟨Ao, co, hvs, -, -⟩ := HTO.out.shape
          subst hvs
          obtain ⟨mo, hmo⟩ : ∃ mo, ownM m = mo := ⟨_, rfl⟩
          have HMO := Lib.hid hmo
          rw [hmo] at HTO ⊢
          have hb14 := hE14.out.size
          have hrel := Lib.hid (show MgR.rel (fun k => k < w.heap.size) w14 (mgA mo (.slice Ao mo.da.length co)).toList mo from ⟨_, rfl, HTO.out⟩)
          have hrow := HW14.out.row
          clear hvo HS13 HW13 P13 hE13 hT13 HTO E14 hmo
          go_wp2_with (at_builtin; refine wpList_app (e := MgR) (base := w1.heap.size) (B := fun k => k < w.heap.size) (A := fun k => k < w.heap.size) rfl (.tmp 52) (.tmp 55) rfl Tryz.underlying22 info_msg rfl (HW14.out.alloc _) rfl (RdY.singleB (e := MgR) (cs := (mgA mo (.slice Ao mo.da.length co)).toList) (d := mo) (Rep.ext hrel.out ((Ext.refl _).alloc _)) (Blk.new _ _ _)) rfl (fun k _ hk => ⟨hk, fun he => by have := (hrow k he).1; omega⟩) (N := qs.length + 1) (by rw [List.length_map]; rfl) (by unfold maxLen; omega) (by omega) (by simp; omega) ?_; intro A15 c15 w15 o15 M15 L15)
          have M16 : Mod (fun k => (Value.slice Aw qs.length cw).ownBlock = some k) w14 w15 := (Mod.of_ext ((Ext.refl w14).alloc _)).trans M15
          refine ⟨⟨j + 1, qs ++ [m], by omega, by go_num, by simp; omega, Lib.hid ?_, Lib.hid ?_, Lib.hid ?_, Lib.hid ?_⟩, by simp [intOf]; omega⟩
          · intro x hx
            rcases List.mem_append.1 hx with hx | hx
            · exact HG.out x hx
            · rw [List.mem_singleton.1 hx]; exact HGM.out
          · exact own_keep HS14.out HW14.out (by decide) M16 (fun k hk => hk.elim)
          · rw [List.map_append, List.map_singleton, HMO.out]
            exact o15
          · exact Mod.toExt hE14.out M16 (fun k hk he => by have := (hrow k he).1; omega)
        · have hqb : (qe == 0) = false := by simpa using hqe
          clear hq0 hq1
          go_wp2
          exact ⟨⟨j + 1, qs, by omega, by go_num, by omega, HG, HS, HW, hE11⟩, by simp [intOf]; omega⟩
    · obtain rfl : j = N := by omega
      obtain ⟨wo, rfl⟩ : ∃ wo, wo = wr := ⟨_, rfl⟩
      have hsl := strM_len qs HG.out
      have hq10 : qs.length ≤ 10 := by omega
      have HSB := Lib.hid (strM_bs qs HG.out)
      have HSF := Lib.hid (strM_feed qs HG.out)
      have hE0 := Lib.hid (E1.trans hE.out)
      have HST := Lib.hid ((HS.out.rdT).lt.mono (B := fun k => k < wo.heap.size) (fun k _ hk => hk.2))
      have HWT := Lib.hid ((HW.out.rdT).lt.mono (B := fun k => k < wo.heap.size) (fun k _ hk => hk.2))
      obtain ⟨As, cs, rfl, -, -⟩ := HS.out.shape
      obtain ⟨Aw, cw, hwv, -, -⟩ := HW.out.shape
      rw [List.length_map] at hwv
      subst hwv
      obtain ⟨SL, hSL⟩ : ∃ SL, (strM qs).length = SL := ⟨_, rfl⟩
      have HSL := Lib.hid hSL
      rw [hSL] at hsl HST ⊢
      clear HS HW hE hSL hql
      by_cases hbig : (50 * (1 + st) : Int) < SL
      · go_wp2
        go_ret
        exact ⟨rfl, hE0.out⟩
      obtain ⟨n0, hn0⟩ : ∃ n0 : Nat, 1 + st = (n0 : Int) := Int.eq_ofNat_of_zero_le (by omega)
      have hn1 : 1 ≤ n0 ∧ n0 ≤ 65536 := by omega
      go_upto_region 23 with fail
      clear hbig hn0
      go_wp2
      obtain ⟨W4, hW4⟩ : ∃ W4, W4 = wo.alloc (.cells #[.slice none 0 0, .bool false] 36) := ⟨_, rfl⟩
      have E4 : Ext wo W4 := by rw [hW4]; exact (Ext.refl _).alloc _
      have B4 := Lib.hid (show Blk W4 wo.heap.size 36 #[.slice none 0 0, .bool false] by rw [hW4]; exact Blk.new wo _ _)
      obtain ⟨g, hg⟩ : ∃ g, wo.heap.size = g := ⟨_, rfl⟩
      have HST := Lib.hid (HST.out.ext E4)
      have HWT := Lib.hid (HWT.out.ext E4)
      have hE4 := Lib.hid (hE0.out.trans E4)
      have hgw : w.heap.size ≤ g := by have := hE0.out.size; omega
      rw [← hW4]
      rw [hg] at HST HWT B4 ⊢
      clear hW4 hg E4 hE0
      go_loopw [5, 6] (fun s t wr => ∃ (rest buf : List Int) (ws : List Mg) (A1 A2 A3 : Option Addr) (c1 c2 c3 : Nat), s = .slice A1 rest.length c1 ∧ t = .slice A2 ws.length c2 ∧ Hid (RdS Ub8 (fun k => k < g) wr (.slice A1 rest.length c1) rest) ∧ Hid (RdS MgR (fun k => k < g) wr (.slice A2 ws.length c2) (ws.map ownM)) ∧
        Hid (Blk wr g 36 #[.slice A3 buf.length c3, .bool false]) ∧ Hid (RdS Ub8 (fun k => k ≠ g) wr (.slice A3 buf.length c3) buf) ∧ Hid (feed (buf ++ rest) = (ws.map encM, some [])) ∧ Hid (feed buf = ([], some buf)) ∧ Hid (Bs buf) ∧ Hid (Bs rest) ∧ buf.length ≤ 37892 ∧ rest.length ≤ 400000 ∧ ws.length ≤ 10 ∧ Hid (∀ m ∈ ws, GoodM m) ∧ Hid (Ext w wr)) (fun s _ _ => lenOfV s)
      case atStart =>
        exact ⟨strM qs, [], qs, As, Aw, none, cs, cw, 0, by rw [HSL.out], rfl, Lib.hid (by rw [HSL.out]; exact HST.out), HWT, B4, Lib.hid (RdS.nil _ _ _), Lib.hid (by rw [List.nil_append]; exact HSF.out), Lib.hid rfl, Lib.hid (by intro x hx; simp at hx), HSB, by simp, by rw [HSL.out]; omega, hq10, HG, hE4⟩
      case round =>
        clear HST HWT B4 hE4 HSB HSF HG HSL hsl hq10
        obtain ⟨rest, buf, ws, A1, A2, A3, c1, c2, c3, rfl, rfl, HR, HWS, HB, HBR, HF, HF2, HBB, HBS, hbl, hrl, hwl, HG, hE⟩ := hrel
        obtain ⟨R, hR⟩ : ∃ R, rest.length = R := ⟨_, rfl⟩
        have HRL := Lib.hid hR
        obtain ⟨BL, hBL⟩ : ∃ BL, buf.length = BL := ⟨_, rfl⟩
        have HBLL := Lib.hid hBL
        rw [hR] at hrl HR ⊢
        rw [hBL] at hbl HB HBR
        clear hR hBL
        have hc1 : R ≤ c1 := by obtain ⟨_, _, hv, h9, _⟩ := HR.out.shape; simp only [Value.slice.injEq] at hv; omega
        by_cases hR0 : R = 0
        · have hr0 : rest = [] := List.eq_nil_of_length_eq_zero (by rw [HRL.out]; exact hR0)
          rw [hr0] at HF
          obtain ⟨rfl, rfl⟩ := top_end HF.out HF2.out
          subst hR0
          have hBL0 : BL = 0 := HBLL.out.symm
          subst hBL0
          have kb := (HB.out.two).1
          have hEE := hE.out
          clear hr0
          go_wp2
          go_ret
          exact ⟨rfl, hEE⟩
        · have hR1 : 0 < R := by omega
          obtain ⟨kk, hk0, hk1, hmin⟩ : ∃ kk : Nat, 1 ≤ kk ∧ kk ≤ R ∧ (if R < n0 then (R : Int) else (n0 : Int)) = (kk : Int) := by
            by_cases h9 : n0 ≤ R
            · exact ⟨n0, hn1.1, h9, if_neg (by omega)⟩
            · exact ⟨R, by omega, Nat.le_refl _, if_pos (by omega)⟩
          obtain ⟨nl, r, hnl, hfr, hf3, hf4⟩ := top_step (buf := buf) (a := rest.take kk) (b := rest.drop kk) (ws := ws) (by rw [List.take_append_drop]; exact HF.out)
          have HFR := Lib.hid hfr
          have HF3 := Lib.hid hf3
          have HF4 := Lib.hid hf4
          have hbr := Fr.feedR_len hfr (by
            intro x hx
            rcases List.mem_append.1 hx with hx | hx
            · exact HBB.out x hx
            · exact HBS.out x (List.mem_of_mem_take hx))
          have HBR2 := Lib.hid hbr.1
          have hbr2 := hbr.2
          have HPIECE := Lib.hid (RdS.to_ HR.out hk1)
          have HREST := Lib.hid (rds_from HR.out hk1)
          have HBY := Lib.hid (RdS.ri HBR.out)
          have hiF : (Tryz.prog.info? 36).map (·.size) = some 2 := by kernel_rfl
          have hgl : g < wr.heap.size := HB.out.lt
          have i1 : (0 : Int) ≤ (kk : Int) := by omega
          have i2 : (kk : Int) ≤ (R : Int) := by omega
          have i3 : (R : Int) ≤ (c1 : Int) := by omega
          have i4 : (kk : Int) ≤ (c1 : Int) := by omega
          clear hfr hf3 hf4 hbr HF HF2
          go_upto_region 28 with fail
          refine wp_region_held_drew (S := fun w' => Mod (fun k => k = g) wr w') (by kernel_rfl) (Mod.of_ext (Ext.drew (Ext.refl _))) (fun hHeld => ?_)
          obtain ⟨D, hD⟩ : ∃ D, D = wr.drew := ⟨_, rfl⟩
          have ED : Ext wr D := by rw [hD]; exact (Ext.refl _).drew
          rw [← hD] at hHeld ⊢
          clear hD
          obtain ⟨k0, k1, -, -⟩ := (HB.out.ext ED).two
          (refine wpAnyH_take (i := 1) (v := ?_) rfl (by kernel_rfl) (by kernel_rfl) (by kernel_rfl) (fun _ _ _ h => h) (Or.inl ⟨by rfl, ?_⟩) (by assumption) ?_; rotate_left; (focus (intro w' hSw; go_simp; try with_reducible rfl)); (try simp only [List.getElem_toArray]); (try simp only [List.getElem_cons_succ]); (try simp only [List.getElem_cons_zero]); (try simp only [Act.put]); (try simp only [List.setIfInBounds_toArray]); (try simp only [List.set_cons_succ]); (try simp only [List.set_cons_zero]))
          (refine wpAnyH_take (i := 2) (v := ?_) rfl (by kernel_rfl) (by kernel_rfl) (by kernel_rfl) (fun _ _ _ h => h) (Or.inl ⟨by rfl, ?_⟩) (by assumption) ?_; rotate_left; (focus (intro w' hSw; go_simp; try with_reducible rfl)); (try simp only [List.getElem_toArray]); (try simp only [List.getElem_cons_succ]); (try simp only [List.getElem_cons_zero]); (try simp only [Act.put]); (try simp only [List.setIfInBounds_toArray]); (try simp only [List.set_cons_succ]); (try simp only [List.set_cons_zero]))
          (refine wpAnyH_take (i := 3) (v := ?_) rfl (by kernel_rfl) (by kernel_rfl) (by kernel_rfl) (fun _ _ _ h => h) (Or.inl ⟨by rfl, ?_⟩) (by assumption) ?_; rotate_left; (focus (intro w' hSw; go_simp; try with_reducible rfl)); (try simp only [List.getElem_toArray]); (try simp only [List.getElem_cons_succ]); (try simp only [List.getElem_cons_zero]); (try simp only [Act.put]); (try simp only [List.setIfInBounds_toArray]); (try simp only [List.set_cons_succ]); (try simp only [List.set_cons_zero]))
          (refine wpAnyH_ready (rs := [0]) (by kernel_rfl) (by simp) ?_; refine AllReadyH.cons rfl (fun K hK => ?_) AllReadyH.nil; go_simp; refine hK.out _ _ (Mod.of_ext ED) (fun hHeld => ?_); clear hK K; (try simp only [Act.put]); (try simp only [List.getElem_toArray]); (try simp only [List.getElem_cons_succ]); (try simp only [List.getElem_cons_zero]); (try simp only [List.setIfInBounds_toArray]); (try simp only [List.set_cons_succ]); (try simp only [List.set_cons_zero]))
          have hpl : (rest.take kk).length = kk := by rw [List.length_take, HRL.out]; omega
          have HPR := Lib.hid (show RI .u8 D (.slice A1 kk c1) (rest.take kk) from RdS.ri (HPIECE.out.ext ED))
          have HBS2 := Lib.hid (show Bs (rest.take kk) from fun x hx => HBS.out x (List.mem_of_mem_take hx))
          (refine wpAnyH_ready (rs := [4]) (by kernel_rfl) (by simp) ?_; refine AllReadyH.cons rfl (fun K hK => ?_) AllReadyH.nil; go_simp; go_at_call 10; refine (Fr.feed_any _ _ false buf (rest.take kk) D (HBY.out.ext ED) HPR.out HBB.out HBS2.out (by rw [HBLL.out]; omega) (by rw [hpl]; omega)).mono ?_; rintro e w6 ⟨rv, lv, rfl, ⟨vs6, mid, o6, _, r6⟩, E6⟩; (try dsimp only); refine hK.out _ _ (Mod.of_ext (ED.trans E6)) (fun hHeld => ?_); clear hK K; (try simp only [Act.put]); (try simp only [List.getElem_toArray]); (try simp only [List.getElem_cons_succ]); (try simp only [List.getElem_cons_zero]); (try simp only [List.setIfInBounds_toArray]); (try simp only [List.set_cons_succ]); (try simp only [List.set_cons_zero]))
          simp only [HFR.out] at o6 r6 ⊢
          obtain ⟨A6, c6, rfl⟩ := own_shape r6
          obtain ⟨Al, cl, rfl, -, -⟩ := (Fr.ownvs_y o6).shape
          have hnl2 : ((ws.take nl).map encM).length = nl := by rw [List.length_map, List.length_take]; omega
          have HO6 := Lib.hid o6
          rw [hnl2] at HO6 ⊢
          have hgD : g < D.heap.size := by have := ED.size; omega
          have hne6 : ∀ k, (Value.slice A6 r.length c6).ownBlock = some k → ¬ k = g := fun k hk he => own_blk_ne r6 (HB.out.ext (ED.trans E6)) (by decide) (by rw [hk, he])
          have HR6 := Lib.hid (show RdS Ub8 (fun k => k ≠ g) w6 (.slice A6 r.length c6) r from ⟨RI.y (Fr.OwnB.rd r6), fun _ k hk => hne6 k hk⟩)
          clear o6 r6 hnl2 hne6
          (refine wpAnyH_take (i := 5) (v := ?_) rfl (by kernel_rfl) (by kernel_rfl) (by kernel_rfl) (fun _ _ _ h => h) (Or.inl ⟨by rfl, ?_⟩) (by assumption) ?_; rotate_left; (focus (intro w' hSw; go_simp; try with_reducible rfl)); (try simp only [List.getElem_toArray]); (try simp only [List.getElem_cons_succ]); (try simp only [List.getElem_cons_zero]); (try simp only [Act.put]); (try simp only [List.setIfInBounds_toArray]); (try simp only [List.set_cons_succ]); (try simp only [List.set_cons_zero]))
          (refine wpAnyH_take (i := 6) (v := ?_) rfl (by kernel_rfl) (by kernel_rfl) (by kernel_rfl) (fun _ _ _ h => h) (Or.inl ⟨by rfl, ?_⟩) (by assumption) ?_; rotate_left; (focus (intro w' hSw; go_simp; try with_reducible rfl)); (try simp only [List.getElem_toArray]); (try simp only [List.getElem_cons_succ]); (try simp only [List.getElem_cons_zero]); (try simp only [Act.put]); (try simp only [List.setIfInBounds_toArray]); (try simp only [List.set_cons_succ]); (try simp only [List.set_cons_zero]))
          (refine wpAnyH_take (i := 7) (v := ?_) rfl (by kernel_rfl) (by kernel_rfl) (by kernel_rfl) (fun _ _ _ h => h) (Or.inl ⟨by rfl, ?_⟩) (by assumption) ?_; rotate_left; (focus (intro w' hSw; go_simp; try with_reducible rfl)); (try simp only [List.getElem_toArray]); (try simp only [List.getElem_cons_succ]); (try simp only [List.getElem_cons_zero]); (try simp only [Act.put]); (try simp only [List.setIfInBounds_toArray]); (try simp only [List.set_cons_succ]); (try simp only [List.set_cons_zero]))
          (refine wpAnyH_take (i := 8) (v := ?_) rfl (by kernel_rfl) (by kernel_rfl) (by kernel_rfl) (fun _ _ _ h => h) (Or.inl ⟨by rfl, ?_⟩) (by assumption) ?_; rotate_left; (focus (intro w' hSw; go_simp; try with_reducible rfl)); (try simp only [List.getElem_toArray]); (try simp only [List.getElem_cons_succ]); (try simp only [List.getElem_cons_zero]); (try simp only [Act.put]); (try simp only [List.setIfInBounds_toArray]); (try simp only [List.set_cons_succ]); (try simp only [List.set_cons_zero]))
          (refine wpAnyH_ready (rs := [9]) (by kernel_rfl) (by simp) ?_; refine AllReadyH.cons rfl (fun K hK => ?_) AllReadyH.nil; rw [if_pos (by rfl)]; refine wp_store_M 36 _ _ rfl (g) _ rfl rfl 36 _ (HB.out.ext (ED.trans E6)) hiF (by rfl) (by simp [Value.oneCell']) ?_; intro w7 B7 M7; refine hK.out _ _ ((Mod.of_ext (ED.trans E6)).trans M7) (fun hHeld => ?_); clear hK K; (try simp only [Act.put]); (try simp only [List.getElem_toArray]); (try simp only [List.getElem_cons_succ]); (try simp only [List.getElem_cons_zero]); (try simp only [List.setIfInBounds_toArray]); (try simp only [List.set_cons_succ]); (try simp only [List.set_cons_zero]))
          (refine wpAnyH_take (i := 10) (v := ?_) rfl (by kernel_rfl) (by kernel_rfl) (by kernel_rfl) (fun _ _ _ h => h) (Or.inl ⟨by rfl, ?_⟩) (by assumption) ?_; rotate_left; (focus (intro w' hSw; go_simp; try with_reducible rfl)); (try simp only [List.getElem_toArray]); (try simp only [List.getElem_cons_succ]); (try simp only [List.getElem_cons_zero]); (try simp only [Act.put]); (try simp only [List.setIfInBounds_toArray]); (try simp only [List.set_cons_succ]); (try simp only [List.set_cons_zero]))
          (refine wpAnyH_take (i := 11) (v := ?_) rfl (by kernel_rfl) (by kernel_rfl) (by kernel_rfl) (fun _ _ _ h => h) (Or.inl ⟨by rfl, ?_⟩) (by assumption) ?_; rotate_left; (focus (intro w' hSw; go_simp; try with_reducible rfl)); (try simp only [List.getElem_toArray]); (try simp only [List.getElem_cons_succ]); (try simp only [List.getElem_cons_zero]); (try simp only [Act.put]); (try simp only [List.setIfInBounds_toArray]); (try simp only [List.set_cons_succ]); (try simp only [List.set_cons_zero]))
          refine wpAnyH_done (by kernel_rfl) ?_ _
          have HL7 := Lib.hid (show RdY (Rep.sl Ub8) (fun k => g < k) w7 (.slice Al nl cl) ((ws.take nl).map encM) from (Fr.ownvs_y (Fr.ownvs_mod HO6.out M7 (fun k hk he => by omega))).mono (fun k _ hk => by omega))
          have HR7 := Lib.hid (HR6.out.mod M7 (fun k _ hk he => hk he))
          have B7 := Lib.hid B7
          have HRE7 := Lib.hid (HREST.out.mod hHeld (fun k _ hk he => by omega))
          have HWS7 := Lib.hid (HWS.out.mod hHeld (fun k _ hk he => by omega))
          have hE7 := Lib.hid (Mod.toExt hE.out hHeld (fun k hk he => by omega))
          have hw7 : g < w7.heap.size := B7.out.lt
          clear HB HBR HR HWS hE HPIECE HREST HBY HPR HBS2 ED E6 hHeld M7 HO6 HR6 k0 k1 HFR
          obtain ⟨A9, hA9⟩ : ∃ A9, (if c1 = kk then A1 else Option.map (fun x => x.add kk) A1) = A9 := ⟨_, rfl⟩
          rw [hA9] at HRE7
          go_upto_region 32 with fail
          clear hA9
          go_wp2
          go_loopw [6, 90] (fun t i wz => ∃ (j3 : Nat) (A8 : Option Addr) (c8 : Nat), j3 ≤ nl ∧ i = .int .i64 j3 ∧ t = .slice A8 (ws.length - j3) c8 ∧ Hid (RdS MgR (fun k => k < g) wz (.slice A8 (ws.length - j3) c8) ((ws.drop j3).map ownM)) ∧ Hid (Ext w7 wz)) (fun _ i _ => nl - (intOf i).toNat)
          case atStart => exact ⟨0, A2, c2, Nat.zero_le _, rfl, rfl, HWS7, Lib.hid (Ext.refl _)⟩
          case round =>
            clear HWS7
            obtain ⟨j3, A8, c8, hj3, rfl, rfl, HW8, hE8⟩ := hrel
            by_cases hjl : j3 < nl
            · have h9 := RdY.at1 (HL7.out.ext hE8.out) rfl hjl
              obtain ⟨bl, h9⟩ := h9
              obtain ⟨ol, h9⟩ := h9
              obtain ⟨u, dd, h9⟩ := h9
              obtain ⟨h8, kc, hd3, hr3⟩ := h9
              subst h8
              obtain ⟨vv, hvv, hrv⟩ := hr3.out
              simp only [List.cons.injEq, and_true] at hvv
              subst hvv
              obtain ⟨m, hmw⟩ : ∃ m, ws[j3]? = some m := ⟨_, List.getElem?_eq_getElem (by omega)⟩
              have hdd : dd = encM m := by
                have h9 := hd3.out
                rw [List.getElem?_map, List.getElem?_take, if_pos hjl, hmw] at h9
                simpa using h9.symm
              have hgm := HG.out m (List.mem_of_getElem? hmw)
              obtain ⟨ps, hps, hfit, hfl, hlen⟩ := hgm.ps
              have hri := RdS.ri hrv
              rw [hdd] at hri
              unfold encM at hri
              simp only [hps] at hri
              have HDC := Lib.hid (decode_any m ps _ wr hri hps hgm.ok hfl hfit)
              obtain ⟨NW, hNW⟩ : ∃ NW, ws.length - j3 = NW := ⟨_, rfl⟩
              have hNW1 : 0 < NW := by omega
              have HWM := Lib.hid hmw
              rw [hNW] at HW8 ⊢
              have HNW := Lib.hid hNW
              clear hri hrv hr3 hd3 hdd hps hfit hfl hlen hgm hNW hmw
              go_wp2_with fail
              refine (HDC.out).mono ?_
              rintro e w9 ⟨vd, rfl, TD, E9⟩
              obtain ⟨Ad, cd, rfl, -, -⟩ := TD.shape
              have hmo2 : ((ws.drop j3).map ownM)[0]? = some (ownM m) := by rw [List.getElem?_map, List.getElem?_drop, Nat.add_zero, HWM.out]; rfl
              obtain ⟨mo, hmo⟩ : ∃ mo, ownM m = mo := ⟨_, rfl⟩
              rw [hmo] at TD hmo2 ⊢
              have TD := Lib.hid TD
              have HMO2 := Lib.hid hmo2
              have hE9 := Lib.hid (hE8.out.trans E9)
              have HW9 := Lib.hid (HW8.out.ext E9)
              clear hE8 HW8 E9 hmo hmo2 HDC kc
              go_upto_region 36 with fail
              obtain ⟨W10, hW10⟩ : ∃ W10, W10 = w9.alloc (.cells (mgA mo (.slice Ad mo.da.length cd)) 28) := ⟨_, rfl⟩
              have E10 : Ext w9 W10 := by rw [hW10]; exact (Ext.refl _).alloc _
              have P10 := Lib.hid (show Blk W10 w9.heap.size 28 (mgA mo (.slice Ad mo.da.length cd)) by rw [hW10]; exact Blk.new w9 _ _)
              rw [← hW10]
              clear hW10
              have HW10 := Lib.hid (HW9.out.ext E10)
              have hE10 := Lib.hid (hE9.out.trans E10)
              have TD10 := Lib.hid (RdS.ri (TD.out.ext E10))
              obtain ⟨n10, hn10⟩ : ∃ n10, w9.heap.size = n10 := ⟨_, rfl⟩
              rw [hn10] at P10 ⊢
              clear E10 HW9 hE9 TD hn10
              obtain ⟨bw, ow, m2, A11, c11, hA8, hra, hd2, ht2⟩ := mg_at HW10.out.y hNW1
              subst hA8
              have hm2 : mo = m2 := by
                have h9 := hd2.out
                rw [HMO2.out] at h9
                simpa using h9
              subst hm2
              have TW10 := Lib.hid (RdS.ri ht2.out)
              have hNWi : ¬ (NW : Int) = 0 := by omega
              have hNWb : ((NW : Int) == 0) = false := by simpa using hNWi
              have hra := Lib.hid (show W10.rangeAt bw ow _ from by simpa using hra.out)
              clear hd2 ht2
              refine wp_region_held_drew (S := fun w' => Ext W10 w') (by kernel_rfl) (Ext.drew (Ext.refl _)) (fun hHeld => ?_)
              (refine wpAnyH_take (i := 0) (v := ?_) rfl (by kernel_rfl) (by kernel_rfl) (by kernel_rfl) (fun _ _ _ h => h) (Or.inl ⟨by rfl, ?_⟩) (by assumption) ?_; rotate_left; (focus (intro w' hSw; go_simp; try with_reducible rfl)); (try simp only [List.getElem_toArray]); (try simp only [List.getElem_cons_succ]); (try simp only [List.getElem_cons_zero]); (try simp only [Act.put]); (try simp only [List.setIfInBounds_toArray]); (try simp only [List.set_cons_succ]); (try simp only [List.set_cons_zero]))
              (refine wpAnyH_take (i := 1) (v := ?_) rfl (by kernel_rfl) (by kernel_rfl) (by kernel_rfl) (fun _ _ _ h => h) (Or.inl ⟨by rfl, ?_⟩) (by assumption) ?_; rotate_left; (focus (intro w' hSw; go_simp; try with_reducible rfl)); (try simp only [List.getElem_toArray]); (try simp only [List.getElem_cons_succ]); (try simp only [List.getElem_cons_zero]); (try simp only [Act.put]); (try simp only [List.setIfInBounds_toArray]); (try simp only [List.set_cons_succ]); (try simp only [List.set_cons_zero]))
              (refine wpAnyH_take (i := 2) (v := ?_) rfl (by kernel_rfl) (by kernel_rfl) (by kernel_rfl) (fun _ _ _ h => h) (Or.inl ⟨by rfl, ?_⟩) (by assumption) ?_; rotate_left; (focus (intro w' hSw; go_simp; try with_reducible rfl)); (try simp only [List.getElem_toArray]); (try simp only [List.getElem_cons_succ]); (try simp only [List.getElem_cons_zero]); (try simp only [Act.put]); (try simp only [List.setIfInBounds_toArray]); (try simp only [List.set_cons_succ]); (try simp only [List.set_cons_zero]))
              (refine wpAnyH_take (i := 3) (v := ?_) rfl (by kernel_rfl) (by kernel_rfl) (by kernel_rfl) (fun _ _ _ h => h) (Or.inl ⟨by rfl, ?_⟩) (by assumption) ?_; rotate_left; (focus (intro w' hSw; go_simp; try with_reducible rfl)); (try simp only [List.getElem_toArray]); (try simp only [List.getElem_cons_succ]); (try simp only [List.getElem_cons_zero]); (try simp only [Act.put]); (try simp only [List.setIfInBounds_toArray]); (try simp only [List.set_cons_succ]); (try simp only [List.set_cons_zero]))
              (refine wpAnyH_take (i := 4) (v := ?_) rfl (by kernel_rfl) (by kernel_rfl) (by kernel_rfl) (fun _ _ _ h => h) (Or.inl ⟨by rfl, ?_⟩) (by assumption) ?_; rotate_left; (focus (intro w' hSw; go_simp; try with_reducible rfl)); (try simp only [List.getElem_toArray]); (try simp only [List.getElem_cons_succ]); (try simp only [List.getElem_cons_zero]); (try simp only [Act.put]); (try simp only [List.setIfInBounds_toArray]); (try simp only [List.set_cons_succ]); (try simp only [List.set_cons_zero]))
              (refine wpAnyH_take (i := 5) (v := ?_) rfl (by kernel_rfl) (by kernel_rfl) (by kernel_rfl) (fun _ _ _ h => h) (Or.inl ⟨by rfl, ?_⟩) (by assumption) ?_; rotate_left; (focus (intro w' hSw; go_simp; try with_reducible rfl)); (try simp only [List.getElem_toArray]); (try simp only [List.getElem_cons_succ]); (try simp only [List.getElem_cons_zero]); (try simp only [Act.put]); (try simp only [List.setIfInBounds_toArray]); (try simp only [List.set_cons_succ]); (try simp only [List.set_cons_zero]))
              (refine wpAnyH_take (i := 6) (v := ?_) rfl (by kernel_rfl) (by kernel_rfl) (by kernel_rfl) (fun _ _ _ h => h) (Or.inl ⟨by rfl, ?_⟩) (by assumption) ?_; rotate_left; (focus (intro w' hSw; go_simp; try with_reducible rfl)); (try simp only [List.getElem_toArray]); (try simp only [List.getElem_cons_succ]); (try simp only [List.getElem_cons_zero]); (try simp only [Act.put]); (try simp only [List.setIfInBounds_toArray]); (try simp only [List.set_cons_succ]); (try simp only [List.set_cons_zero]))
              (refine wpAnyH_take (i := 7) (v := ?_) rfl (by kernel_rfl) (by kernel_rfl) (by kernel_rfl) (fun _ _ _ h => h) (Or.inl ⟨by rfl, ?_⟩) (by assumption) ?_; rotate_left; (focus (intro w' hSw; go_simp; try with_reducible rfl)); (try simp only [List.getElem_toArray]); (try simp only [List.getElem_cons_succ]); (try simp only [List.getElem_cons_zero]); (try simp only [Act.put]); (try simp only [List.setIfInBounds_toArray]); (try simp only [List.set_cons_succ]); (try simp only [List.set_cons_zero]))
              (refine wpAnyH_take (i := 8) (v := .agg (mgA mo (.slice Ad mo.da.length cd))) rfl (by kernel_rfl) (by kernel_rfl) (by kernel_rfl) (fun _ _ _ h => h) (yieldsIf_load_row (by rfl) 28 _ rfl _ rfl 28 (mgA mo (.slice Ad mo.da.length cd)) _ _ (fun w' hSw => (P10.out.ext hSw)) Tryz.underlying28 rfl hiM) (by assumption) ?_; (try simp only [Act.put]); (try simp only [List.getElem_toArray]); (try simp only [List.getElem_cons_succ]); (try simp only [List.getElem_cons_zero]); (try simp only [List.setIfInBounds_toArray]); (try simp only [List.set_cons_succ]); (try simp only [List.set_cons_zero]))
              (refine wpAnyH_take (i := 9) (v := ?_) rfl (by kernel_rfl) (by kernel_rfl) (by kernel_rfl) (fun _ _ _ h => h) (Or.inl ⟨by rfl, ?_⟩) (by assumption) ?_; rotate_left; (focus (intro w' hSw; go_simp; try with_reducible rfl)); (try simp only [List.getElem_toArray]); (try simp only [List.getElem_cons_succ]); (try simp only [List.getElem_cons_zero]); (try simp only [Act.put]); (try simp only [List.setIfInBounds_toArray]); (try simp only [List.set_cons_succ]); (try simp only [List.set_cons_zero]))
              (refine wpAnyH_take (i := 10) (v := ?_) rfl (by kernel_rfl) (by kernel_rfl) (by kernel_rfl) (fun _ _ _ h => h) (Or.inl ⟨by rfl, ?_⟩) (by assumption) ?_; rotate_left; (focus (intro w' hSw; go_simp; try with_reducible rfl)); (try simp only [List.getElem_toArray]); (try simp only [List.getElem_cons_succ]); (try simp only [List.getElem_cons_zero]); (try simp only [Act.put]); (try simp only [List.setIfInBounds_toArray]); (try simp only [List.set_cons_succ]); (try simp only [List.set_cons_zero]))
              (refine wpAnyH_take (i := 11) (v := .agg (mgA mo (.slice A11 mo.da.length c11))) rfl (by kernel_rfl) (by kernel_rfl) (by kernel_rfl) (fun _ _ _ h => h) (yieldsIf_load_mid (by rfl) 28 _ rfl _ _ rfl (mgA mo (.slice A11 mo.da.length c11)).toList _ (fun w' hSw => (fun i u hu => cell_ext hSw (hra.out i u hu))) Tryz.underlying28 rfl (hiML _ _)) (by assumption) ?_; (try simp only [List.getElem_toArray]); (try simp only [List.getElem_cons_succ]); (try simp only [List.getElem_cons_zero]); (try simp only [Act.put]); (try simp only [List.setIfInBounds_toArray]); (try simp only [List.set_cons_succ]); (try simp only [List.set_cons_zero]))
              (refine wpAnyH_ready (rs := [12]) (by kernel_rfl) (by simp) ?_; refine AllReadyH.cons rfl (fun K hK => ?_) AllReadyH.nil; go_simp; go_at_call 12; refine (msame_any mo _ _ _ (RdN.ext TD10.out (Ext.drew (Ext.refl _))) (RdN.ext TW10.out (Ext.drew (Ext.refl _)))).mono ?_; rintro e w11 ⟨rfl, E11⟩; (try dsimp only); refine hK.out _ _ (by repeat (first | with_reducible exact Ext.refl _ | refine Ext.drewN ?_ _ | refine Ext.drew ?_ | refine Ext.alloc ?_ _ | assumption | (refine Below.trans ?_ (by assumption)) | (refine Ext.trans ?_ (by assumption)) | (refine Below.trans ?_ (Below.mono (by assumption) (by omega))))) (fun hHeld => ?_); clear hK K; (try simp only [Act.put]); (try simp only [List.getElem_toArray]); (try simp only [List.getElem_cons_succ]); (try simp only [List.getElem_cons_zero]); (try simp only [List.setIfInBounds_toArray]); (try simp only [List.set_cons_succ]); (try simp only [List.set_cons_zero]))
              (refine wpAnyH_take (i := 13) (v := ?_) rfl (by kernel_rfl) (by kernel_rfl) (by kernel_rfl) (fun _ _ _ h => h) (Or.inl ⟨by rfl, ?_⟩) (by assumption) ?_; rotate_left; (focus (intro w' hSw; go_simp; try with_reducible rfl)); (try simp only [List.getElem_toArray]); (try simp only [List.getElem_cons_succ]); (try simp only [List.getElem_cons_zero]); (try simp only [Act.put]); (try simp only [List.setIfInBounds_toArray]); (try simp only [List.set_cons_succ]); (try simp only [List.set_cons_zero]))
              (refine wpAnyH_take (i := 14) (v := ?_) rfl (by kernel_rfl) (by kernel_rfl) (by kernel_rfl) (fun _ _ _ h => h) (Or.inl ⟨by rfl, ?_⟩) (by assumption) ?_; rotate_left; (focus (intro w' hSw; go_simp; try with_reducible rfl)); (try simp only [List.getElem_toArray]); (try simp only [List.getElem_cons_succ]); (try simp only [List.getElem_cons_zero]); (try simp only [Act.put]); (try simp only [List.setIfInBounds_toArray]); (try simp only [List.set_cons_succ]); (try simp only [List.set_cons_zero]))
              refine wpAnyH_done (by kernel_rfl) ?_ _
              have hE11 := Lib.hid (hE10.out.trans hHeld)
              have HW11 := Lib.hid (show RdS MgR (fun k => k < g) w11 (.slice (if c8 = 1 then some ⟨bw, ow, none⟩ else some ⟨bw, ow + 10, none⟩) (NW - 1) (c8 - 1)) ((ws.drop (j3 + 1)).map ownM) from by
                have h9 := RdS.from_ (HW10.out.ext hHeld) (k := 1) (by omega)
                have e1 : Option.map (fun x : Addr => x.add (1 * MgR.size)) (some ⟨bw, ow, none⟩) = some ⟨bw, ow + 10, none⟩ := by simp [Addr.add_lit, MgR]
                have e2 : ((ws.drop j3).map ownM).drop 1 = (ws.drop (j3 + 1)).map ownM := by rw [← List.map_drop, List.drop_drop]
                rw [e1, e2] at h9
                exact h9)
              clear HW10 hE10 TD10 TW10 hra P10 E11 hHeld
              go_wp2
              have hNX : ws.length - (j3 + 1) = NW - 1 := by have := HNW.out; omega
              exact ⟨⟨j3 + 1, _, c8 - 1, by omega, by go_num, by rw [hNX], Lib.hid (by rw [hNX]; exact HW11.out), hE11⟩, by simp [intOf]; omega⟩
            · obtain rfl : j3 = nl := by omega
              have hlr : (rest.drop kk).length = R - kk := by rw [List.length_drop, HRL.out]
              have hlw : (ws.drop j3).length = ws.length - j3 := List.length_drop
              have B8 := Lib.hid (B7.out.ext hE8.out)
              have HRE8 := Lib.hid (HRE7.out.ext hE8.out)
              have HR8 := Lib.hid (HR7.out.ext hE8.out)
              have hEE8 := Lib.hid (hE7.out.trans hE8.out)
              clear B7 HRE7 HR7 hE7 hE8 HL7
              go_wp2
              trace_state
              refine ⟨⟨rest.drop kk, r, ws.drop j3, A9, A8, A6, c1 - kk, c8, c6, by rw [hlr], by rw [hlw], Lib.hid (by rw [hlr]; exact HRE8.out), Lib.hid (by rw [hlw]; exact HW8.out), B8, HR8, HF3, HF4, HBR2, Lib.hid (fun x hx => HBS.out x (List.mem_of_mem_drop hx)), hbr2, by rw [hlr]; omega, by rw [hlw]; omega, Lib.hid (fun x hx => HG.out x (List.mem_of_mem_drop hx)), hEE8⟩, by simp [lenOfV]; omega⟩
end Go.Proofs.YtldijmappinngaaGreatDoor
