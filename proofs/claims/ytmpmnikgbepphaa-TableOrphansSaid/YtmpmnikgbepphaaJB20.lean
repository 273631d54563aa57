/- Groups with nobody outside who sees to them: walked; the law answers true. Conditions: the processes' numbers fit. -/
import Derived.Test.YtmpmnikgbepphaaIB20
namespace Go.Proofs.Ytmpmnikgbepphaa
open Go.RowKit Go.Kb Go.Maps

set_option maxRecDepth 100000 in
set_option maxHeartbeats 2000000 in
theorem tableOrphans_walk {A : Nat → Prop} (Ad : Option Addr) (c : Nat) (l : List Pr) (nx g : Int) (w : World) (h : RdY Rp A w (.slice Ad l.length c) l) (hw : ∀ p ∈ l, p.wf) :
    Calls Try.prog 5 #[tv Ad l.length c nx, .int .i64 g] w fun e w' => e = .returned (.bool true) ∧ Ext w w' := by
  have hmm := @run_makeMap Try.prog
  have H := Lib.hid (rdy_pr (B := fun _ => False) h)
  have hoks := Lib.hid (RdY.oks h)
  have HWF := Lib.hid hw
  obtain ⟨N, hN⟩ : ∃ N, l.length = N := ⟨_, rfl⟩
  rw [hN] at H ⊢
  have HN := Lib.hid hN
  have hbox := Lib.hid (Blk.new w 24 #[.slice Ad N c, .int .i64 nx])
  have E0 : Ext w (w.alloc (.cells #[.slice Ad N c, .int .i64 nx] 24)) := (by repeat (first | with_reducible exact Ext.refl _ | refine Ext.drewN ?_ _ | refine Ext.drew ?_ | refine Ext.alloc ?_ _ | assumption | (refine Below.trans ?_ (by assumption)) | (refine Ext.trans ?_ (by assumption)) | (refine Below.trans ?_ (Below.mono (by assumption) (by omega)))))
  have hgr := fun w => great_any Ad c l nx w
  rw [hN] at hgr
  have HGR := Lib.hid hgr
  clear h hw hN hgr
  go_enter Try.func5, Try.ntmps5
  go_wp2_with fail
  refine (alive_any _).mono ?_
  rintro e w1 ⟨rfl, E1⟩
  have hbox := Lib.hid (hbox.out.ext E1)
  have E01 : Ext w w1 := E0.trans E1
  clear E0 E1
  have kb := hbox.out.two
  go_wp2_with fail
  refine (HGR.out _).mono ?_
  rintro e w2 ⟨rfl, E2⟩
  have hbox := Lib.hid (hbox.out.ext E2)
  have E02 := E01.trans E2
  have kb := hbox.out.two
  clear E01 E2
  by_cases hg : 60 < N
  · have hg2 : decide (60 < N) = true := decide_eq_true hg
    rw [hg2]
    clear hg
    go_wp2
    go_ret
    exact ⟨rfl, E02⟩
  have hg2 : decide (60 < N) = false := decide_eq_false hg
  rw [hg2]
  clear hg2
  have HG := Lib.hid hg
  have href := fun w h => ref_any (A := fun _ => False) Ad c l nx w h (by rw [HN.out]; have := HG.out; omega)
  have hto := fun A1 c1 w h => to_any (A := fun _ => False) A1 c1 l nx w h (by rw [HN.out]; have := HG.out; omega)
  have hfrom := fun A1 c1 w h => from_any (A := fun _ => False) A1 c1 l nx w h (by rw [HN.out]; have := HG.out; omega)
  rw [HN.out] at href hto hfrom
  have HREF := Lib.hid href
  have HTO := Lib.hid hto
  have HFROM := Lib.hid hfrom
  clear hg href hto hfrom
  go_wp2_with fail
  refine (HREF.out _ (H.out.ext E02)).mono ?_
  rintro e w3 ⟨A3, c3, rfl, O3, E3⟩
  go_wp2_with fail
  refine (HTO.out A3 c3 _ (rdy_pr O3.y)).mono ?_
  rintro e w4 ⟨A4, c4, rfl, O4, E4⟩
  have E24 := E3.trans E4
  have E04 := E02.trans E24
  have hbox := Lib.hid (hbox.out.ext E24)
  clear O3 E3 E4 E24 kb
  obtain ⟨n7, hn7⟩ : ∃ n7, w4.heap.size = n7 := ⟨_, rfl⟩
  obtain ⟨W, hW⟩ : ∃ W, W = w4.alloc (.cells #[.slice A4 N c4, .int .i64 nx] 29) := ⟨_, rfl⟩
  have B7 := Lib.hid (show Blk W n7 29 #[.slice A4 N c4, .int .i64 nx] by rw [hW]; exact Blk.at_ _ _ hn7)
  have EW : Ext w4 W := by rw [hW]; exact (Ext.refl _).alloc _
  have RT := Lib.hid (rdy_pr (B := fun _ => False) (O4.ext EW).y)
  have hbox := Lib.hid (hbox.out.ext EW)
  have E0W := E04.trans EW
  have HW := Lib.hid hW
  have HN7 := Lib.hid hn7
  clear hn7 hW O4 EW E04
  have hmb := members_any (A := fun _ => False) A4 c4 l nx g W (by rw [HN.out]; exact RT.out)
  rw [HN.out] at hmb
  have HMB := Lib.hid hmb
  clear hmb HFROM HTO HGR
  go_wp2_with fail
  rw [HN7.out, ← HW.out]
  refine HMB.out.mono ?_
  rintro e w5 ⟨A5, c5, rfl, O5, E5⟩
  obtain ⟨P, hP⟩ : ∃ P, memP l nx g = P := ⟨_, rfl⟩
  have hml : memL l nx g = P.map (·.pid) := by rw [memL_memP, hP]
  rw [hml, List.length_map] at O5 ⊢
  obtain ⟨K, hK⟩ : ∃ K, P.length = K := ⟨_, rfl⟩
  rw [hK] at O5 ⊢
  have hK32 : K ≤ 60 := by
    rw [← hK, ← hP]
    unfold memP
    split
    · have := List.length_filter_le (ofP g) l
      have := HN.out
      have := HG.out
      omega
    · simp
  have HP := Lib.hid hP
  have HK := Lib.hid hK
  have O5 := Lib.hid O5
  have B7 := Lib.hid (B7.out.ext E5)
  have RT := Lib.hid (RT.out.ext E5)
  have hbox := Lib.hid (hbox.out.ext E5)
  have E05 := E0W.trans E5
  have HW0 := Lib.hid (World.ownsMap_made w5 Try.prog 3 (plainElem (H := Unit) Try.prog 4))
  clear hml hP hK E5
  go_wp2
  go_loopw [32] (fun i wr => ∃ m : Nat, m ≤ K ∧ i = .int .i64 m ∧ Hid (wr.ownsMap Try.prog 3 (plainElem Try.prog 4) w5.heap.size m (upD (upsN l nx g m))) ∧ Ext w5 wr) (fun i _ => K - (intOf i).toNat)
  case atStart => exact ⟨0, Nat.zero_le _, rfl, HW0, (Ext.refl _).alloc _⟩
  case round =>
    clear HW0
    obtain ⟨m, hm, rfl, own, hE⟩ := hrel
    have b7 := Lib.hid (B7.out.ext hE)
    have rt := Lib.hid (RT.out.ext hE)
    have kb := b7.out.two
    by_cases hmn : m < K
    · obtain ⟨p, hp⟩ : ∃ p, P[m]? = some p := ⟨_, List.getElem?_eq_getElem (by have := HK.out; omega)⟩
      rw [← HP.out] at hp
      obtain ⟨hr, hpl, hpg, hget, hlive⟩ := mem_facts hp
      have hok := hoks.out p hpl
      obtain ⟨b, off, u, x, rfl, hc, hd, hu⟩ := RdY.at1 (O5.out.ext hE).y rfl hmn
      have hu : [u] = [Value.int .i64 x] := hu.out
      cases hu
      obtain rfl : x = p.pid := by
        have := hd.out
        rw [List.getElem?_map, ← HP.out, hp] at this
        exact (Option.some.inj this).symm
      have HC := Lib.hid hc
      have hg1 := get_any (A := fun _ => False) A4 c4 l nx p.pid wr (by rw [HN.out]; exact rt.out)
      have hl1 := fun w h => live_any (A := fun _ => False) A4 c4 l nx p.pid w h
      have hg2 := fun w h => get_any (A := fun _ => False) A4 c4 l nx p.parent w h
      have hl2 := fun w h => live_any (A := fun _ => False) A4 c4 l nx p.parent w h
      obtain ⟨⟨up, ob⟩, hup⟩ : ∃ y, getL l nx p.parent = y := ⟨_, rfl⟩
      have huok := getL_ok (nx := nx) (pid := p.parent) hoks.out
      have hlv := live_get (l := l) (nx := nx) (pid := p.parent)
      have hsn := seen_get (g := g) (p := p) hr
      rw [hup] at huok hlv hsn
      rw [HN.out, hget] at hg1
      rw [HN.out] at hl1 hg2 hl2
      rw [hlive] at hl1
      simp only [hup] at hg2
      obtain ⟨lv, hlv2⟩ : ∃ lv, liveL l nx p.parent = lv := ⟨_, rfl⟩
      rw [hlv2] at hlv hsn hl2
      have HG1 := Lib.hid hg1
      have HL1 := Lib.hid hl1
      have HG2 := Lib.hid hg2
      have HL2 := Lib.hid hl2
      have HLV := Lib.hid hlv
      have HSN := Lib.hid hsn
      have HPP := Lib.hid hp
      have hpw := Lib.hid ((HWF.out p hpl).2.1)
      clear hd hg1 hl1 hg2 hl2 hup hlv hsn hget hlive hlv2 hp hpl
      have hc := HC.out
      go_wp2_with fail
      refine HG1.out.mono ?_
      rintro e w6 ⟨rfl, E6⟩
      have b7 := Lib.hid (b7.out.ext E6)
      have rt := Lib.hid (rt.out.ext E6)
      have own := Lib.hid (owns_ext own.out E6)
      have E06 := hE.trans E6
      obtain ⟨n10, hn10⟩ : ∃ n10, w6.heap.size = n10 := ⟨_, rfl⟩
      have hpgb : (p.group != g) = false := by rw [hpg]; simp
      clear kb hc E6
      go_wp2_with ((refine wpList_store_A rfl 43 _ _ rfl (n10) _ rfl rfl 43 _ (zero_row w6 n10 hn10) (by rw [List.size_toArray]; exact i43' hok) (Eq.trans (b := 43) (by rfl) (Eq.symm (show (p).cells.toArray.size = 43 from Pr.size hok))) (Pr.one hok) ?_); intro w7 H7 E7; have E67 : Ext w6 w7 := E7 w6.heap.size w6 ((Ext.refl w6).alloc _) (by omega); have b10 := Lib.hid H7; have b7 := Lib.hid (b7.out.ext E67); have rt := Lib.hid (rt.out.ext E67); have own := Lib.hid (owns_ext own.out E67); have kb := b7.out.two; have c2 := (prAt_blk hok b10.out).c2; clear E7 H7)
      refine (HL1.out _ rt.out).mono ?_
      rintro e w8 ⟨rfl, E8⟩
      have b7 := Lib.hid (b7.out.ext E8)
      have rt := Lib.hid (rt.out.ext E8)
      have own := Lib.hid (owns_ext own.out E8)
      have b10 := Lib.hid (b10.out.ext E8)
      have E08 := E06.trans (E67.trans E8)
      have kb := b7.out.two
      have c1 := (prAt_blk hok b10.out).c1
      clear c2 E67 E8 hn10
      go_wp2_with fail
      refine (HG2.out _ rt.out).mono ?_
      rintro e w9 ⟨rfl, E9⟩
      have b7 := Lib.hid (b7.out.ext E9)
      have rt := Lib.hid (rt.out.ext E9)
      have own := Lib.hid (owns_ext own.out E9)
      have b10 := Lib.hid (b10.out.ext E9)
      have E09 := E08.trans E9
      obtain ⟨n12, hn12⟩ : ∃ n12, w9.heap.size = n12 := ⟨_, rfl⟩
      clear kb c1 E9
      cases ob
      · have hlf : lv = false := HLV.out
        have HU := Lib.hid (upsN_no HPP.out (by rw [HSN.out, hlf]; rfl))
        clear hlf
        go_wp2_with ((refine wpList_store_A rfl 43 _ _ rfl (n12) _ rfl rfl 43 _ (zero_row w9 n12 hn12) (by rw [List.size_toArray]; exact i43' huok) (Eq.trans (b := 43) (by rfl) (Eq.symm (show (up).cells.toArray.size = 43 from Pr.size huok))) (Pr.one huok) ?_); intro w10 H10 E10; have E910 : Ext w9 w10 := E10 w9.heap.size w9 ((Ext.refl w9).alloc _) (by omega); have b12 := Lib.hid H10; have b7 := Lib.hid (b7.out.ext E910); have rt := Lib.hid (rt.out.ext E910); have own := Lib.hid (owns_ext own.out E910); have b10 := Lib.hid (b10.out.ext E910); have kb := b7.out.two; have c1 := (prAt_blk hok b10.out).c1; clear E10 H10)
        go_roundw
        case rel => exact ⟨m + 1, by omega, by go_num, Lib.hid (by rw [HU.out]; exact own.out.mono (by omega)), E09.trans E910⟩
        case measure => simp [intOf]; omega
      · go_wp2_with ((refine wpList_store_A rfl 43 _ _ rfl (n12) _ rfl rfl 43 _ (zero_row w9 n12 hn12) (by rw [List.size_toArray]; exact i43' huok) (Eq.trans (b := 43) (by rfl) (Eq.symm (show (up).cells.toArray.size = 43 from Pr.size huok))) (Pr.one huok) ?_); intro w10 H10 E10; have E910 : Ext w9 w10 := E10 w9.heap.size w9 ((Ext.refl w9).alloc _) (by omega); have b12 := Lib.hid H10; have b7 := Lib.hid (b7.out.ext E910); have rt := Lib.hid (rt.out.ext E910); have own := Lib.hid (owns_ext own.out E910); have b10 := Lib.hid (b10.out.ext E910); have kb := b7.out.two; have c1 := (prAt_blk hok b10.out).c1; clear E10 H10)
        refine (HL2.out _ rt.out).mono ?_
        rintro e w11 ⟨rfl, E11⟩
        have own := Lib.hid (owns_ext own.out E11)
        have b10 := Lib.hid (b10.out.ext E11)
        have b12 := Lib.hid (b12.out.ext E11)
        have E011 := E09.trans (E910.trans E11)
        have p1 := (prAt_blk hok b10.out).c1
        have p3 := (prAt_blk hok b10.out).c3
        have u2 := (prAt_blk huok b12.out).c2
        have u3 := (prAt_blk huok b12.out).c3
        clear kb c1 E11 E910 hn12
        cases lv
        · have HU := Lib.hid (upsN_no HPP.out (by rw [HSN.out]; rfl))
          go_wp2
          go_roundw
          case rel => exact ⟨m + 1, by omega, by go_num, Lib.hid (by rw [HU.out]; exact own.out.mono (by omega)), E011⟩
          case measure => simp [intOf]; omega
        · cases hgg : (up.group != g)
          · have HU := Lib.hid (upsN_no HPP.out (by rw [HSN.out, hgg]; simp))
            go_wp2
            go_roundw
            case rel => exact ⟨m + 1, by omega, by go_num, Lib.hid (by rw [HU.out]; exact own.out.mono (by omega)), E011⟩
            case measure => simp [intOf]; omega
          · cases hss : (up.session == p.session)
            · have HU := Lib.hid (upsN_no HPP.out (by rw [HSN.out, hss]; simp))
              go_wp2
              go_roundw
              case rel => exact ⟨m + 1, by omega, by go_num, Lib.hid (by rw [HU.out]; exact own.out.mono (by omega)), E011⟩
              case measure => simp [intOf]; omega
            · have HU := Lib.hid (upsN_yes HPP.out (by rw [HSN.out, hss, hgg]; rfl))
              go_wp2_with (at_mapUpdate; refine wpList_mapUpdate_own _ rfl _ _ _ 52 rfl 3 4 keyed_int Try.underlying52 _ w5.heap.size m _ rfl own.out (by unfold maxLen; omega) _ _ _ rfl rfl (keyOf_int_mk Try.underlying3 hpw.out) _ [] (plainElem_bool Try.underlying4 true) ?_; intro w12 own12 grow12; have own12 := Lib.hid own12; have E012 := Lib.hid (Ext.grownNew E011 grow12 (fun k hk => by cases hk; exact Nat.le_refl _)); clear grow12 E011)
              go_roundw
              case rel => exact ⟨m + 1, by omega, by go_num, Lib.hid (by rw [HU.out, upD_snoc]; exact own12.out), E012.out⟩
              case measure => simp [intOf]; omega
    · obtain rfl : m = K := by omega
      have hU : (memP l nx g).length = m := by rw [HP.out]; exact HK.out
      obtain ⟨sz, hsz⟩ : ∃ sz, Maps.size (upD (upsN l nx g m)) = sz := ⟨_, rfl⟩
      have HU := Lib.hid hU
      have HSZ := Lib.hid hsz
      have hg0 := get_any (A := fun _ => False) A4 c4 l nx 0 wr (by rw [HN.out]; exact rt.out)
      rw [HN.out, get_zero] at hg0
      have HG0 := Lib.hid hg0
      have hb := Lib.hid (hbox.out.ext hE)
      have hx := Lib.hid (H.out.ext (E05.trans hE))
      have E0r := E05.trans hE
      have hrr := fun A c w h => rright_any (A := fun _ => False) A c l nx w h
      have hor := fun w h => orphaned_any (A := fun _ => False) A4 c4 l nx g w h
      rw [HN.out] at hrr hor
      have HRR := Lib.hid hrr
      have HOR := Lib.hid hor
      clear hU hsz hg0 hrr hor
      go_wp2_with fail
      refine HG0.out.mono ?_
      rintro e w6 ⟨rfl, E6⟩
      have b7 := Lib.hid (b7.out.ext E6)
      have rt := Lib.hid (rt.out.ext E6)
      have own := Lib.hid (owns_ext own.out E6)
      have hb := Lib.hid (hb.out.ext E6)
      have hx := Lib.hid (hx.out.ext E6)
      have E06 := E0r.trans E6
      have E56 := hE.trans E6
      obtain ⟨n14, hn14⟩ : ∃ n14, w6.heap.size = n14 := ⟨_, rfl⟩
      clear kb E6 E0r hE
      have hm0 : (((m : Int) == 0) = true ∧ ¬ ((0 : Int) < (sz : Int))) ∨ ((m : Int) == 0) = false := by
        by_cases h0 : m = 0
        · refine .inl ⟨by simp [h0], ?_⟩
          have : sz = 0 := by rw [← HSZ.out, up_zero, h0]; unfold upsN; simp
          omega
        · exact .inr (by simp; omega)
      rcases hm0 with ⟨hm0, hm1⟩ | hm0
      all_goals
        go_wp2_with ((refine wpList_store_A rfl 43 _ _ rfl (n14) _ rfl rfl 43 _ (zero_row w6 n14 hn14) (by rw [List.size_toArray]; exact i43' zeroP_ok) (Eq.trans (b := 43) (by rfl) (Eq.symm (show (zeroP).cells.toArray.size = 43 from Pr.size zeroP_ok))) (Pr.one zeroP_ok) ?_); intro w7 H7 E7; have E67 : Ext w6 w7 := E7 w6.heap.size w6 ((Ext.refl w6).alloc _) (by omega); have b7 := Lib.hid (b7.out.ext E67); have rt := Lib.hid (rt.out.ext E67); have own := Lib.hid (owns_ext own.out E67); have hb := Lib.hid (hb.out.ext E67); have hx := Lib.hid (hx.out.ext E67); have kb := hb.out.two; have hlen := own.out.len Try.underlying52 3; rw [HSZ.out] at hlen; clear E7 H7)
        (try clear hm1)
        clear hm0
        refine (HREF.out _ hx.out).mono ?_
        rintro e w8 ⟨A8, c8, rfl, O8, E8⟩
        have hrr := HRR.out A8 c8 w8 (rdy_pr O8.y)
        go_wp2_with fail
        refine hrr.mono ?_
        rintro e w9 ⟨rfl, E9⟩
        have E79 := E8.trans E9
        have b7 := Lib.hid (b7.out.ext E79)
        have rt := Lib.hid (rt.out.ext E79)
        have own := Lib.hid (owns_ext own.out E79)
        have E09 := E06.trans (E67.trans E79)
        have E59 := E56.trans (E67.trans E79)
        have kb := b7.out.two
        clear hrr O8 E8 E9 E79 E67 E56 E06 hlen hn14
        cases hr : rightL l nx
        · have HO := Lib.hid (show orphL l nx g = false by unfold orphL; rw [hr]; rfl)
          clear hr
          go_wp2_with fail
          refine (HOR.out _ rt.out).mono ?_
          rintro e w10 ⟨rfl, E10⟩
          rw [HO.out]
          go_wp2
          go_ret
          exact ⟨rfl, E09.trans E10⟩
        · have HR := Lib.hid hr
          obtain ⟨ol, hol⟩ : ∃ ol, orphL l nx g = ol := ⟨_, rfl⟩
          have hzo := ups_zero (g := g) hr
          rw [HU.out, HSZ.out, hol] at hzo
          clear hr
          go_wp2_with fail
          refine (HOR.out _ rt.out).mono ?_
          rintro e w10 ⟨rfl, E10⟩
          rw [hol]
          have b7 := Lib.hid (b7.out.ext E10)
          have rt := Lib.hid (rt.out.ext E10)
          have own := Lib.hid (owns_ext own.out E10)
          have E010 := E09.trans E10
          have E510 := E59.trans E10
          have kb := b7.out.two
          have hlen := own.out.len Try.underlying52 3
          rw [HSZ.out] at hlen
          clear E10 E09 E59 hol
          by_cases h1 : sz = 1
          · have HS1 := Lib.hid h1
            subst h1
            first | (exfalso; omega) | skip
            all_goals
              obtain rfl : ol = false := by rw [← hzo]; rfl
              clear hzo
              go_wp2_with (first
                | (at_range; refine wpList_range_own _ rfl _ 52 rfl 3 4 keyed_int Try.underlying52 _ w5.heap.size m _ rfl own.out ?_; intro w11 hrg0 hg0 hs0)
                | fail)
              all_goals
                (try go_frame)
                refine wp_loop_rounds 1 ?_
                rw [rounds_succ]
                obtain ⟨x0, hx0⟩ : ∃ x0, x0 ∈ upsN l nx g m := by
                  rcases hq : upsN l nx g m with _ | ⟨x0, r⟩
                  · have := up_zero.2 hq
                    rw [HSZ.out] at this
                    omega
                  · exact ⟨x0, List.mem_cons_self⟩
                have HX0 := Lib.hid hx0
                have E011 := Lib.hid (Ext.grownNew E010 hg0 (fun k hk => by cases hk))
                have E1011 : Ext w10 w11 := Ext.grownNew (Ext.refl _) hg0 (fun k hk => by cases hk)
                clear hx0 hg0 hs0 hlen
                go_wp2_with (first
                  | (at_next; refine wpList_next_ranges _ rfl _ rfl 3 keyed_int (plainElem (H := Unit) Try.prog 4) (Value.int .i64) Value.bool (fun key kl hkey => by obtain ⟨x, rfl, _⟩ := Maps.keyOf_int_inv Try.underlying3 hkey; exact ⟨x, rfl⟩) (fun v y hv => pl_bool hv) w5.heap.size w10.heap.size m _ _ _ rfl hrg0 ?_ ?_; rotate_left; intro x cB kl y w12 cnt1 hkey hlk hv hat hrg1 hlt hg1 hs1 hen; have E1012 : Ext w10 w12 := Ext.grownNew E1011 hg1 (fun k hk => by cases hk; exact Nat.le_refl _); have b7 := Lib.hid (b7.out.ext E1012); have rt := Lib.hid (rt.out.ext E1012); have kb := b7.out.two; have HKEY := Lib.hid hkey; have HLK := Lib.hid hlk; clear hkey hlk hv hat hrg1 hlt hg1 hs1; rotate_right)
                  | fail)
                (try (intro _ hl0; exfalso; have := up_has.2 HX0.out; rw [hl0] at this; cases this))
                have hxU : x ∈ upsN l nx g m := by
                  obtain ⟨x', hx', hkl, _⟩ := Maps.keyOf_int_inv Try.underlying3 HKEY.out
                  cases hx'
                  have := HLK.out
                  rw [hkl] at this
                  exact up_has.1 this
                have hlx : liveL l nx x = true := ups_mem (g := g) HR.out (by rw [HU.out]; exact hxU)
                have hask : askL l nx [x] = 0 := askL_of_live HR.out hlx
                have horp : orphL (endL l x 0) nx g = true := orph_end HR.out fun p hp ho hs => up_one HSZ.out hxU (by have := ups_all HR.out hp ho hs; rw [HU.out] at this; exact this)
                have HORP := Lib.hid horp
                have hend := end_any (A := fun _ => False) A4 c4 l nx x 0 w12 (by rw [HN.out]; exact rt.out)
                rw [HN.out] at hend
                refine hend.mono ?_
                rintro e w13 ⟨E13, (⟨h, _⟩ | ⟨_, A13, c13, rfl, O13⟩)⟩
                · exact absurd hask h
                obtain ⟨L, hL⟩ : ∃ L, endL l x 0 = L := ⟨_, rfl⟩
                rw [hL] at O13 HORP ⊢
                obtain ⟨M, hM⟩ : ∃ M, L.length = M := ⟨_, rfl⟩
                rw [hM] at O13 ⊢
                have ho2 := fun w h => orphaned_any (A := fun _ => False) A13 c13 L nx g w h
                rw [hM, HORP.out] at ho2
                have HO2 := Lib.hid ho2
                have E013 := E010.trans (E1012.trans E13)
                have RO := Lib.hid (rdy_pr (B := fun _ => False) (O13.alloc (.cells #[.slice A13 M c13, .int .i64 nx] 29)).y)
                clear ho2 hL hM hend horp hask hlx O13 E13
                go_wp2_with fail
                refine (HO2.out _ RO.out).mono ?_
                rintro e w14 ⟨rfl, E14⟩
                go_wp2
                go_ret
                exact ⟨rfl, E013.trans ((Ext.refl _).alloc _ |>.trans E14)⟩
          · have h2 : (((sz : Nat) : Int) != 1) = true := by simp; omega
            go_wp2
            go_ret
            exact ⟨rfl, E010⟩
end Go.Proofs.Ytmpmnikgbepphaa
