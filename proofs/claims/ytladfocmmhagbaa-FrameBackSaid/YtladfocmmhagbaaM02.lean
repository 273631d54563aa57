/- FrameBack: for every payloads and step the law answers true, and leaves its arguments as they were. No condition. -/
import Derived.Test.YtladfocmmhagbaaL02
import Derived.Test.YtladfocmmhagbaaOpen
namespace Go.Proofs.Ytladfocmmhagbaa
open Go.RowKit Go.Kb Go.Kb.Frame Go.ChangeShapes Go.WideShapes Go.ChangeAt

set_option maxRecDepth 100000 in
set_option maxHeartbeats 2000000 in
theorem frameBack_walk (v : Value) (ls : List (List Int)) (s : Int) (w : World) (h : RdLs w v ls) (hb : ∀ p ∈ ls, Bs p) (hs0 : 0 ≤ s) (hs1 : s ≤ 255) :
    Calls Try.prog 6 #[v, .int .u8 s] w fun e w' => e = .returned (.bool true) ∧ Ext w w' := by
  have H := Lib.hid h
  have HB := Lib.hid hb
  obtain ⟨Ad, c, rfl, hc1, hc2⟩ := (rdls_y h).shape
  clear h hb
  by_cases h20 : 20 < ls.length
  · go_enter Try.func6, Try.ntmps6
    go_wp2_with (go_at_call 8; refine (alive_any _).mono ?_; rintro e w1 ⟨rfl, E1⟩)
    go_ret
    exact ⟨rfl, (by repeat (first | with_reducible exact Ext.refl _ | refine Ext.drewN ?_ _ | refine Ext.drew ?_ | refine Ext.alloc ?_ _ | assumption | (refine Below.trans ?_ (by assumption)) | (refine Ext.trans ?_ (by assumption)) | (refine Below.trans ?_ (Below.mono (by assumption) (by omega)))))⟩
  by_cases hg : (ls.any fun l => decide (200000 < l.length)) = true
  · have HG := Lib.hid hg
    clear hg
    go_enter Try.func6, Try.ntmps6
    go_wp2_with (first
      | (go_at_call 8; refine (alive_any _).mono ?_; rintro e w1 ⟨rfl, E1⟩)
      | ((go_at_call 9; refine (great_any _ ls _ (H.out.ext E1)).mono ?_; rintro e w2 ⟨rfl, E2⟩); rw [HG.out]))
    go_ret
    exact ⟨rfl, (by repeat (first | with_reducible exact Ext.refl _ | refine Ext.drewN ?_ _ | refine Ext.drew ?_ | refine Ext.alloc ?_ _ | assumption | (refine Below.trans ?_ (by assumption)) | (refine Ext.trans ?_ (by assumption)) | (refine Below.trans ?_ (Below.mono (by assumption) (by omega)))))⟩
  have HG : Hid ((ls.any fun l => decide (200000 < l.length)) = false) := Lib.hid (by simpa using hg)
  have HLn : Hid (∀ p ∈ ls, p.length ≤ 200000) := Lib.hid (by
    intro p hp
    have := HG.out
    rw [List.any_eq_false] at this
    have := this p hp
    simpa using this)
  clear hg
  go_enter Try.func6, Try.ntmps6
  go_wp2_with (first
    | (go_at_call 8; refine (alive_any _).mono ?_; rintro e w1 ⟨rfl, E1⟩)
    | ((go_at_call 9; refine (great_any _ ls _ (H.out.ext E1)).mono ?_; rintro e w2 ⟨rfl, E2⟩); rw [HG.out]))
  have E02 : Ext w w2 := E1.trans E2
  have hz2 := E02.size
  clear E1 E2
  go_loopw [5, 26] (fun st i wr => ∃ k : Nat, k ≤ ls.length ∧ i = .int .i64 k ∧ (∀ p ∈ ls.take k, 1 ≤ p.length ∧ p.length ≤ 33792) ∧ OwnS Ub 5 w2.heap.size (fun _ => False) wr st (pack (ls.take k)) ∧ Ext w2 wr) (fun _ i _ => ls.length - (intOf i).toNat)
  case atStart => exact ⟨0, Nat.zero_le _, rfl, by simp, OwnS.nil _ _ _ _ _, Ext.refl _⟩
  case round =>
    obtain ⟨k, hk, rfl, hp, hO, hE⟩ := hrel
    have HP := Lib.hid hp
    have HO := Lib.hid hO
    have hsz := hE.size
    have hpl := pack_len (ls.take k) hp
    have hpl2 : (ls.take k).length ≤ 20 := by simp; omega
    obtain ⟨Ao, co, rfl, _, _⟩ := hO.shape
    clear hp hO
    by_cases hlt : k < ls.length
    · obtain ⟨b, off, u, p, rfl, hcu, hd, hr⟩ := (rdls_y (H.out.ext (E02.trans hE))).at1 rfl hlt
      obtain ⟨u', hu', hr'⟩ := hr.out
      simp only [List.cons.injEq, and_true] at hu'
      subst hu'
      obtain ⟨Ap, cp, rfl, hp1, hp2⟩ := hr'.shape
      have RP := Lib.hid hr'.ri
      have hmem : p ∈ ls := List.mem_of_getElem? hd.out
      have hpn := HLn.out p hmem
      have HS := Lib.hid (pack_succ hd.out)
      have HM := Lib.hid hmem
      have hd2 := Lib.hid hd.out
      clear hr hr' hd hmem
      by_cases hin : 1 ≤ p.length ∧ p.length ≤ 33792
      · have HF := Lib.hid (fput_yes hin)
        have HIN := Lib.hid hin
        have hfl : (four (p.length : Int) ++ p).length = 4 + p.length := by simp [four]; omega
        go_wp2_with (first
          | ((go_at_call 10; refine (put_any _ p _ RP.out (by omega)).mono ?_; rintro e w4 ⟨v4, rfl, o4, E4⟩); rw [HF.out] at o4 ⊢; obtain ⟨A4, c4, rfl⟩ := own_shape o4; have RB : RI .u8 w4 (.slice A4 (4 + p.length) c4) (four p.length ++ p) := (by rw [← hfl]; exact o4.rd))
          | (at_builtin; refine wpList_app (B := fun _ => False) (A := fun _ => False) rfl (.tmp 40) (.tmp 41) rfl Try.underlying22 info_u8 rfl (HO.out.ext (by repeat (first | with_reducible exact Ext.refl _ | refine Ext.drewN ?_ _ | refine Ext.drew ?_ | refine Ext.alloc ?_ _ | assumption | (refine Below.trans ?_ (by assumption)) | (refine Ext.trans ?_ (by assumption)) | (refine Below.trans ?_ (Below.mono (by assumption) (by omega)))))) rfl (RI.y (RB.ext (by repeat (first | with_reducible exact Ext.refl _ | refine Ext.drewN ?_ _ | refine Ext.drew ?_ | refine Ext.alloc ?_ _ | assumption | (refine Below.trans ?_ (by assumption)) | (refine Ext.trans ?_ (by assumption)) | (refine Below.trans ?_ (Below.mono (by assumption) (by omega))))))) rfl (fun _ _ h => h.elim) (N := (pack (ls.take k)).length + (4 + p.length)) (by rw [hfl]) (by unfold maxLen; omega) (by omega) (by have := E4.size; omega) ?_; intro A5 c5 w5 o5 M5 B5; clear M5))
        go_roundw
        case rel => exact ⟨k + 1, by omega, by go_num, fun q hq => by
            rw [List.take_add_one, hd2.out] at hq
            rcases List.mem_append.1 hq with hq | hq
            · exact HP.out q hq
            · simp at hq
              subst hq
              exact HIN.out, by rw [HS.out]; exact o5, (by repeat (first | with_reducible exact Ext.refl _ | refine Ext.drewN ?_ _ | refine Ext.drew ?_ | refine Ext.alloc ?_ _ | assumption | (refine Below.trans ?_ (by assumption)) | (refine Ext.trans ?_ (by assumption)) | (refine Below.trans ?_ (Below.mono (by assumption) (by omega)))))⟩
        case measure => simp [intOf]; omega
      · have HF := Lib.hid (fput_no hin)
        clear hin
        go_wp2_with ((go_at_call 10; refine (put_any _ p _ RP.out (by omega)).mono ?_; rintro e w4 ⟨v4, rfl, o4, E4⟩); rw [HF.out] at o4 ⊢; obtain ⟨A4, c4, rfl⟩ := own_shape o4)
        go_ret
        exact ⟨by simp, (by repeat (first | with_reducible exact Ext.refl _ | refine Ext.drewN ?_ _ | refine Ext.drew ?_ | refine Ext.alloc ?_ _ | assumption | (refine Below.trans ?_ (by assumption)) | (refine Ext.trans ?_ (by assumption)) | (refine Below.trans ?_ (Below.mono (by assumption) (by omega)))))⟩
    · obtain rfl : k = ls.length := by omega
      have hT : ls.take ls.length = ls := List.take_length
      rw [hT] at HP HO hpl hpl2
      simp only [hT]
      have HPB := Lib.hid (pack_bs ls HP.out HB.out)
      have HFD := Lib.hid (feed_pack ls HP.out)
      have RS := Lib.hid ((HO.out.rdT.lt).mono (B := fun k => k < wr.heap.size) fun _ _ h => h.2)
      have hwr := hE.size
      clear HP HLn hpl2
      generalize pack ls = st at *
      by_cases hbig : 4000 < st.length ∧ s < 100
      · obtain ⟨h1, h2⟩ := hbig
        go_wp2
        go_ret
        exact ⟨rfl, (by repeat (first | with_reducible exact Ext.refl _ | refine Ext.drewN ?_ _ | refine Ext.drew ?_ | refine Ext.alloc ?_ _ | assumption | (refine Below.trans ?_ (by assumption)) | (refine Ext.trans ?_ (by assumption)) | (refine Below.trans ?_ (Below.mono (by assumption) (by omega)))))⟩
      have hpos : (1 : Int) ≤ 1 + s := by omega
      obtain ⟨n0, hn0⟩ := Int.eq_ofNat_of_zero_le (show 0 ≤ 1 + s by omega)
      have hn1 : 0 < n0 ∧ n0 ≤ 256 := by omega
      obtain ⟨wo, rfl⟩ : ∃ wo : World, wo = wr := ⟨_, rfl⟩
      have HE0 : Hid (Ext w wo) := Lib.hid (E02.trans hE)
      have hwo := hE.size
      by_cases hb1 : 4000 < st.length
      · have hb2 : ¬ s < 100 := fun h => hbig ⟨hb1, h⟩
        clear hbig
        go_wp2
        clear hn0
        clear hb1 hpos hE
        go_loopw [5, 11, 12] (fun st5 g11 n12 wx => ∃ (rest buf : List Int) (done rem : List (List Int)) (Ab : Option Addr) (cb n : Nat), n12 = .int .i64 n ∧ 0 < n ∧ n ≤ 256 ∧ RdS Ub (fun k => k < wo.heap.size) wx st5 rest ∧
            Blk wx wo.heap.size 34 #[.slice Ab buf.length cb, .bool false] ∧ RdS Ub (fun k => k ≠ wo.heap.size ∧ g11.ownBlock ≠ some k) wx (.slice Ab buf.length cb) buf ∧
            OwnS (Rep.sl Ub) 22 (wo.heap.size + 1) (fun k => k ≠ wo.heap.size) wx g11 done ∧ feed (buf ++ rest) = (rem, some []) ∧ done ++ rem = ls ∧ feed buf = ([], some buf) ∧ Bs buf ∧ Bs rest ∧ buf.length ≤ 37892 ∧ rest.length ≤ 675920 ∧
            Ext wo wx) (fun st5 _ _ _ => lenOfV st5)
        case atStart => exact ⟨st, [], [], ls, none, 0, n0, rfl, hn1.1, hn1.2, RS.out.ext (by repeat (first | with_reducible exact Ext.refl _ | refine Ext.drewN ?_ _ | refine Ext.drew ?_ | refine Ext.alloc ?_ _ | assumption | (refine Below.trans ?_ (by assumption)) | (refine Ext.trans ?_ (by assumption)) | (refine Below.trans ?_ (Below.mono (by assumption) (by omega))))), Blk.new _ _ _, RdS.nil _ _ _, OwnS.nil _ _ _ _ _, HFD.out, rfl, rfl, by intro x hx; simp at hx, HPB.out, by simp, by omega, (by repeat (first | with_reducible exact Ext.refl _ | refine Ext.drewN ?_ _ | refine Ext.drew ?_ | refine Ext.alloc ?_ _ | assumption | (refine Below.trans ?_ (by assumption)) | (refine Ext.trans ?_ (by assumption)) | (refine Below.trans ?_ (Below.mono (by assumption) (by omega)))))⟩
        case round =>
          obtain ⟨rest, buf, done, rem, Ab, cb, n, rfl, hn2, hn3, hst, hbx, hbf, hgo, hfd, hdn, hstk, hbb, hbr, hbl, hrl, hEx⟩ := hrel
          obtain ⟨As, cs, rfl, hs1, hs2⟩ := hst.shape
          have HST := Lib.hid hst
          have HBX := Lib.hid hbx
          have HBF := Lib.hid hbf
          have HGO := Lib.hid hgo
          have HFDx := Lib.hid hfd
          have HDN := Lib.hid hdn
          have HSTK := Lib.hid hstk
          have HBB := Lib.hid hbb
          have HBR := Lib.hid hbr
          have hzx := hEx.size
          have hgl := hbx.lt
          obtain ⟨q0, q1, f0, f1⟩ := hbx.two
          obtain ⟨Ag, cg, rfl, _, _⟩ := hgo.shape
          have hdl : done.length ≤ 20 := by
            have := congrArg List.length hdn
            rw [List.length_append] at this
            omega
          clear hst hbx hbf hgo hfd hdn hstk hbb hbr
          by_cases hlt : 0 < rest.length
          · obtain ⟨m, hm0, hm1, hm2, hmn⟩ : ∃ m : Nat, 0 < m ∧ m ≤ rest.length ∧ m ≤ 256 ∧ ((rest.length < n ∧ m = rest.length) ∨ (¬ rest.length < n ∧ m = n)) := by
              by_cases h : rest.length < n
              · exact ⟨rest.length, by omega, by omega, by omega, .inl ⟨h, rfl⟩⟩
              · exact ⟨n, by omega, by omega, by omega, .inr ⟨h, rfl⟩⟩
            obtain ⟨l, r, rem2, hR, hrem, hf2, hstk2⟩ := feed_step (buf := buf) (a := rest.take m) (b := rest.drop m) (rem := rem) (by rw [List.take_append_drop]; exact HFDx.out)
            have hbt : Bs (rest.take m) := fun x hx => HBR.out x (List.mem_of_mem_take hx)
            have hbd : Bs (rest.drop m) := fun x hx => HBR.out x (List.mem_of_mem_drop hx)
            obtain ⟨hbr2, hrl2⟩ := feedR_len hR (fun x hx => by
              rcases List.mem_append.1 hx with hx | hx
              · exact HBB.out x hx
              · exact hbt x hx)
            have hll : l.length ≤ 20 := by
              have := congrArg List.length HDN.out
              rw [hrem, List.length_append, List.length_append] at this
              omega
            have HR := Lib.hid hR
            have HT : Hid (RdS Ub (fun k => k < wo.heap.size) wr (.slice As m cs) (rest.take m)) := Lib.hid (HST.out.to_ hm1)
            have htl : (rest.take m).length = m := by simp; omega
            have HBT := Lib.hid hbt
            have HBD := Lib.hid hbd
            have HB2 := Lib.hid hbr2
            have HF2 := Lib.hid hf2
            have HS2 := Lib.hid hstk2
            have HRM := Lib.hid hrem
            have i0 : (0 : Int) ≤ (m : Int) := by omega
            have i1 : (m : Int) ≤ (cs : Int) := by omega
            clear hR hbt hbd hbr2 hf2 hstk2 hrem
            rcases hmn with ⟨h, rfl⟩ | ⟨h, rfl⟩
            ·
              go_wp2
              go_region_law (go_simp; first
                | (((go_at_call 14; refine (feed_any _ _ false buf (rest.take rest.length) _ (HBF.out.ri.ext (by repeat (first | exact Ext.refl _ | refine Ext.drew ?_ | refine Ext.alloc ?_ _))) (HT.out.ri.ext (by repeat (first | exact Ext.refl _ | refine Ext.drew ?_ | refine Ext.alloc ?_ _))) HBB.out HBT.out (by omega) (by omega)).mono ?_; rintro e w6 ⟨v6, lv6, rfl, ⟨vs6, mid6, o6, lt6, r6⟩, E6⟩); simp only [HR.out] at o6 r6 ⊢; obtain ⟨A6, c6, rfl⟩ := own_shape r6; obtain ⟨B6, d6, rfl⟩ := own_shape o6.2.1; clear lt6; have hc6 := Bc E6; have hf6 := Bf E6; have hz6 := Below.size E6; (try simp at hz6); have hd6 := fun o => hc6 wo.heap.size o (by (try simp) <;> omega); have he6 := fun o => hf6 wo.heap.size o (by (try simp) <;> omega))))
              have E6' : Ext wr w6 := ((Ext.refl wr).drew).trans E6
              have hB7 := (HBX.out.ext E6').put2 (.slice A6 r.length c6) (.bool false)
              have hM6 : Mod (fun k => k = wo.heap.size) w6 ((w6.setCell ⟨wo.heap.size, 0, none⟩ (.slice A6 r.length c6)).setCell ⟨wo.heap.size, 1, none⟩ (.bool false)) := (by repeat (first | with_reducible exact Mod.refl _ _ | refine Mod.drew ?_ | refine Mod.drewN ?_ _ | refine Mod.set1 ?_ _))
              have RL := Lib.hid (ownvs_y (ownvs_mod o6 hM6 (fun k hk he => by simp at hk; omega)))
              have OG := Lib.hid ((HGO.out.ext E6').mod hM6 (fun k hk he => by have := HGO.out.row k hk; omega) (fun k _ hk he => hk he))
              have hz6 := E6'.size
              have hrow := Lib.hid HGO.out.row
              have R6 := Lib.hid r6
              have HB7 := Lib.hid hB7
              clear o6 r6 hB7
              go_wp2_with (at_builtin; refine wpList_app (e := Rep.sl Ub) (B := fun k => k ≠ wo.heap.size) rfl (.tmp 73) (.tmp 74) rfl Try.underlying36 info_rows rfl OG.out rfl RL.out rfl (fun k _ hk => ⟨by simp at hk; omega, fun he => by have := hrow.out k he; simp at hk; omega⟩) (N := done.length + l.length) rfl (by unfold maxLen; omega) (by omega) (by simp; omega) ?_; intro A7 c7 w7 o7 M7 B7)
              go_roundw
              case rel =>
                obtain ⟨p1, p2, p3, p4⟩ := back_post (g := wo.heap.size) (m := rest.length) rfl hEx E6' HBX.out R6.out hM6 HB7.out HGO.out o7 M7 HST.out hm1
                (try rw [Nat.sub_self] at p1)
                exact ⟨rest.drop rest.length, r, done ++ l, rem2, A6, c6, rest.length, rfl, hm0, hm2, p1, p2, p3, o7, HF2.out, (by rw [List.append_assoc, ← HRM.out]; exact HDN.out), HS2.out, HB2.out, HBD.out, hrl2, (by rw [List.length_drop]; omega), p4⟩
              case measure => simp [lenOfV]; try omega
            ·
              go_wp2
              go_region_law (go_simp; first
                | (((go_at_call 14; refine (feed_any _ _ false buf (rest.take m) _ (HBF.out.ri.ext (by repeat (first | exact Ext.refl _ | refine Ext.drew ?_ | refine Ext.alloc ?_ _))) (HT.out.ri.ext (by repeat (first | exact Ext.refl _ | refine Ext.drew ?_ | refine Ext.alloc ?_ _))) HBB.out HBT.out (by omega) (by omega)).mono ?_; rintro e w6 ⟨v6, lv6, rfl, ⟨vs6, mid6, o6, lt6, r6⟩, E6⟩); simp only [HR.out] at o6 r6 ⊢; obtain ⟨A6, c6, rfl⟩ := own_shape r6; obtain ⟨B6, d6, rfl⟩ := own_shape o6.2.1; clear lt6; have hc6 := Bc E6; have hf6 := Bf E6; have hz6 := Below.size E6; (try simp at hz6); have hd6 := fun o => hc6 wo.heap.size o (by (try simp) <;> omega); have he6 := fun o => hf6 wo.heap.size o (by (try simp) <;> omega))))
              have E6' : Ext wr w6 := ((Ext.refl wr).drew).trans E6
              have hB7 := (HBX.out.ext E6').put2 (.slice A6 r.length c6) (.bool false)
              have hM6 : Mod (fun k => k = wo.heap.size) w6 ((w6.setCell ⟨wo.heap.size, 0, none⟩ (.slice A6 r.length c6)).setCell ⟨wo.heap.size, 1, none⟩ (.bool false)) := (by repeat (first | with_reducible exact Mod.refl _ _ | refine Mod.drew ?_ | refine Mod.drewN ?_ _ | refine Mod.set1 ?_ _))
              have RL := Lib.hid (ownvs_y (ownvs_mod o6 hM6 (fun k hk he => by simp at hk; omega)))
              have OG := Lib.hid ((HGO.out.ext E6').mod hM6 (fun k hk he => by have := HGO.out.row k hk; omega) (fun k _ hk he => hk he))
              have hz6 := E6'.size
              have hrow := Lib.hid HGO.out.row
              have R6 := Lib.hid r6
              have HB7 := Lib.hid hB7
              clear o6 r6 hB7
              go_wp2_with (at_builtin; refine wpList_app (e := Rep.sl Ub) (B := fun k => k ≠ wo.heap.size) rfl (.tmp 73) (.tmp 74) rfl Try.underlying36 info_rows rfl OG.out rfl RL.out rfl (fun k _ hk => ⟨by simp at hk; omega, fun he => by have := hrow.out k he; simp at hk; omega⟩) (N := done.length + l.length) rfl (by unfold maxLen; omega) (by omega) (by simp; omega) ?_; intro A7 c7 w7 o7 M7 B7)
              go_roundw
              case rel =>
                obtain ⟨p1, p2, p3, p4⟩ := back_post (g := wo.heap.size) (m := m) rfl hEx E6' HBX.out R6.out hM6 HB7.out HGO.out o7 M7 HST.out hm1
                (try rw [Nat.sub_self] at p1)
                exact ⟨rest.drop m, r, done ++ l, rem2, A6, c6, m, rfl, hm0, hm2, p1, p2, p3, o7, HF2.out, (by rw [List.append_assoc, ← HRM.out]; exact HDN.out), HS2.out, HB2.out, HBD.out, hrl2, (by rw [List.length_drop]; omega), p4⟩
              case measure => simp [lenOfV]; try omega
          · have h0 : rest = [] := List.eq_nil_of_length_eq_zero (by omega)
            subst h0
            have h1 := HFDx.out
            rw [List.append_nil, HSTK.out] at h1
            simp only [Prod.mk.injEq, Option.some.injEq] at h1
            obtain ⟨rfl, rfl⟩ := h1
            have h2 := HDN.out
            rw [List.append_nil] at h2
            have HD2 := Lib.hid h2
            clear h2
            go_wp2_with ((go_at_call 17; refine (lists_any _ _ done ls _ (y_rdls HGO.out.rdT.y) (H.out.ext (HE0.out.trans hEx))).mono ?_; rintro e w8 ⟨rfl, E8⟩))
            go_ret
            exact ⟨by simp [HD2.out], (HE0.out.trans hEx).trans E8⟩
      · clear hbig
        go_wp2
        clear hn0
        clear hb1 hpos hE
        go_loopw [5, 11, 12] (fun st5 g11 n12 wx => ∃ (rest buf : List Int) (done rem : List (List Int)) (Ab : Option Addr) (cb n : Nat), n12 = .int .i64 n ∧ 0 < n ∧ n ≤ 256 ∧ RdS Ub (fun k => k < wo.heap.size) wx st5 rest ∧
            Blk wx wo.heap.size 34 #[.slice Ab buf.length cb, .bool false] ∧ RdS Ub (fun k => k ≠ wo.heap.size ∧ g11.ownBlock ≠ some k) wx (.slice Ab buf.length cb) buf ∧
            OwnS (Rep.sl Ub) 22 (wo.heap.size + 1) (fun k => k ≠ wo.heap.size) wx g11 done ∧ feed (buf ++ rest) = (rem, some []) ∧ done ++ rem = ls ∧ feed buf = ([], some buf) ∧ Bs buf ∧ Bs rest ∧ buf.length ≤ 37892 ∧ rest.length ≤ 675920 ∧
            Ext wo wx) (fun st5 _ _ _ => lenOfV st5)
        case atStart => exact ⟨st, [], [], ls, none, 0, n0, rfl, hn1.1, hn1.2, RS.out.ext (by repeat (first | with_reducible exact Ext.refl _ | refine Ext.drewN ?_ _ | refine Ext.drew ?_ | refine Ext.alloc ?_ _ | assumption | (refine Below.trans ?_ (by assumption)) | (refine Ext.trans ?_ (by assumption)) | (refine Below.trans ?_ (Below.mono (by assumption) (by omega))))), Blk.new _ _ _, RdS.nil _ _ _, OwnS.nil _ _ _ _ _, HFD.out, rfl, rfl, by intro x hx; simp at hx, HPB.out, by simp, by omega, (by repeat (first | with_reducible exact Ext.refl _ | refine Ext.drewN ?_ _ | refine Ext.drew ?_ | refine Ext.alloc ?_ _ | assumption | (refine Below.trans ?_ (by assumption)) | (refine Ext.trans ?_ (by assumption)) | (refine Below.trans ?_ (Below.mono (by assumption) (by omega)))))⟩
        case round =>
          obtain ⟨rest, buf, done, rem, Ab, cb, n, rfl, hn2, hn3, hst, hbx, hbf, hgo, hfd, hdn, hstk, hbb, hbr, hbl, hrl, hEx⟩ := hrel
          obtain ⟨As, cs, rfl, hs1, hs2⟩ := hst.shape
          have HST := Lib.hid hst
          have HBX := Lib.hid hbx
          have HBF := Lib.hid hbf
          have HGO := Lib.hid hgo
          have HFDx := Lib.hid hfd
          have HDN := Lib.hid hdn
          have HSTK := Lib.hid hstk
          have HBB := Lib.hid hbb
          have HBR := Lib.hid hbr
          have hzx := hEx.size
          have hgl := hbx.lt
          obtain ⟨q0, q1, f0, f1⟩ := hbx.two
          obtain ⟨Ag, cg, rfl, _, _⟩ := hgo.shape
          have hdl : done.length ≤ 20 := by
            have := congrArg List.length hdn
            rw [List.length_append] at this
            omega
          clear hst hbx hbf hgo hfd hdn hstk hbb hbr
          by_cases hlt : 0 < rest.length
          · obtain ⟨m, hm0, hm1, hm2, hmn⟩ : ∃ m : Nat, 0 < m ∧ m ≤ rest.length ∧ m ≤ 256 ∧ ((rest.length < n ∧ m = rest.length) ∨ (¬ rest.length < n ∧ m = n)) := by
              by_cases h : rest.length < n
              · exact ⟨rest.length, by omega, by omega, by omega, .inl ⟨h, rfl⟩⟩
              · exact ⟨n, by omega, by omega, by omega, .inr ⟨h, rfl⟩⟩
            obtain ⟨l, r, rem2, hR, hrem, hf2, hstk2⟩ := feed_step (buf := buf) (a := rest.take m) (b := rest.drop m) (rem := rem) (by rw [List.take_append_drop]; exact HFDx.out)
            have hbt : Bs (rest.take m) := fun x hx => HBR.out x (List.mem_of_mem_take hx)
            have hbd : Bs (rest.drop m) := fun x hx => HBR.out x (List.mem_of_mem_drop hx)
            obtain ⟨hbr2, hrl2⟩ := feedR_len hR (fun x hx => by
              rcases List.mem_append.1 hx with hx | hx
              · exact HBB.out x hx
              · exact hbt x hx)
            have hll : l.length ≤ 20 := by
              have := congrArg List.length HDN.out
              rw [hrem, List.length_append, List.length_append] at this
              omega
            have HR := Lib.hid hR
            have HT : Hid (RdS Ub (fun k => k < wo.heap.size) wr (.slice As m cs) (rest.take m)) := Lib.hid (HST.out.to_ hm1)
            have htl : (rest.take m).length = m := by simp; omega
            have HBT := Lib.hid hbt
            have HBD := Lib.hid hbd
            have HB2 := Lib.hid hbr2
            have HF2 := Lib.hid hf2
            have HS2 := Lib.hid hstk2
            have HRM := Lib.hid hrem
            have i0 : (0 : Int) ≤ (m : Int) := by omega
            have i1 : (m : Int) ≤ (cs : Int) := by omega
            clear hR hbt hbd hbr2 hf2 hstk2 hrem
            rcases hmn with ⟨h, rfl⟩ | ⟨h, rfl⟩
            ·
              go_wp2
              go_region_law (go_simp; first
                | (((go_at_call 14; refine (feed_any _ _ false buf (rest.take rest.length) _ (HBF.out.ri.ext (by repeat (first | exact Ext.refl _ | refine Ext.drew ?_ | refine Ext.alloc ?_ _))) (HT.out.ri.ext (by repeat (first | exact Ext.refl _ | refine Ext.drew ?_ | refine Ext.alloc ?_ _))) HBB.out HBT.out (by omega) (by omega)).mono ?_; rintro e w6 ⟨v6, lv6, rfl, ⟨vs6, mid6, o6, lt6, r6⟩, E6⟩); simp only [HR.out] at o6 r6 ⊢; obtain ⟨A6, c6, rfl⟩ := own_shape r6; obtain ⟨B6, d6, rfl⟩ := own_shape o6.2.1; clear lt6; have hc6 := Bc E6; have hf6 := Bf E6; have hz6 := Below.size E6; (try simp at hz6); have hd6 := fun o => hc6 wo.heap.size o (by (try simp) <;> omega); have he6 := fun o => hf6 wo.heap.size o (by (try simp) <;> omega))))
              have E6' : Ext wr w6 := ((Ext.refl wr).drew).trans E6
              have hB7 := (HBX.out.ext E6').put2 (.slice A6 r.length c6) (.bool false)
              have hM6 : Mod (fun k => k = wo.heap.size) w6 ((w6.setCell ⟨wo.heap.size, 0, none⟩ (.slice A6 r.length c6)).setCell ⟨wo.heap.size, 1, none⟩ (.bool false)) := (by repeat (first | with_reducible exact Mod.refl _ _ | refine Mod.drew ?_ | refine Mod.drewN ?_ _ | refine Mod.set1 ?_ _))
              have RL := Lib.hid (ownvs_y (ownvs_mod o6 hM6 (fun k hk he => by simp at hk; omega)))
              have OG := Lib.hid ((HGO.out.ext E6').mod hM6 (fun k hk he => by have := HGO.out.row k hk; omega) (fun k _ hk he => hk he))
              have hz6 := E6'.size
              have hrow := Lib.hid HGO.out.row
              have R6 := Lib.hid r6
              have HB7 := Lib.hid hB7
              clear o6 r6 hB7
              go_wp2_with (at_builtin; refine wpList_app (e := Rep.sl Ub) (B := fun k => k ≠ wo.heap.size) rfl (.tmp 73) (.tmp 74) rfl Try.underlying36 info_rows rfl OG.out rfl RL.out rfl (fun k _ hk => ⟨by simp at hk; omega, fun he => by have := hrow.out k he; simp at hk; omega⟩) (N := done.length + l.length) rfl (by unfold maxLen; omega) (by omega) (by simp; omega) ?_; intro A7 c7 w7 o7 M7 B7)
              go_roundw
              case rel =>
                obtain ⟨p1, p2, p3, p4⟩ := back_post (g := wo.heap.size) (m := rest.length) rfl hEx E6' HBX.out R6.out hM6 HB7.out HGO.out o7 M7 HST.out hm1
                (try rw [Nat.sub_self] at p1)
                exact ⟨rest.drop rest.length, r, done ++ l, rem2, A6, c6, rest.length, rfl, hm0, hm2, p1, p2, p3, o7, HF2.out, (by rw [List.append_assoc, ← HRM.out]; exact HDN.out), HS2.out, HB2.out, HBD.out, hrl2, (by rw [List.length_drop]; omega), p4⟩
              case measure => simp [lenOfV]; try omega
            ·
              go_wp2
              go_region_law (go_simp; first
                | (((go_at_call 14; refine (feed_any _ _ false buf (rest.take m) _ (HBF.out.ri.ext (by repeat (first | exact Ext.refl _ | refine Ext.drew ?_ | refine Ext.alloc ?_ _))) (HT.out.ri.ext (by repeat (first | exact Ext.refl _ | refine Ext.drew ?_ | refine Ext.alloc ?_ _))) HBB.out HBT.out (by omega) (by omega)).mono ?_; rintro e w6 ⟨v6, lv6, rfl, ⟨vs6, mid6, o6, lt6, r6⟩, E6⟩); simp only [HR.out] at o6 r6 ⊢; obtain ⟨A6, c6, rfl⟩ := own_shape r6; obtain ⟨B6, d6, rfl⟩ := own_shape o6.2.1; clear lt6; have hc6 := Bc E6; have hf6 := Bf E6; have hz6 := Below.size E6; (try simp at hz6); have hd6 := fun o => hc6 wo.heap.size o (by (try simp) <;> omega); have he6 := fun o => hf6 wo.heap.size o (by (try simp) <;> omega))))
              have E6' : Ext wr w6 := ((Ext.refl wr).drew).trans E6
              have hB7 := (HBX.out.ext E6').put2 (.slice A6 r.length c6) (.bool false)
              have hM6 : Mod (fun k => k = wo.heap.size) w6 ((w6.setCell ⟨wo.heap.size, 0, none⟩ (.slice A6 r.length c6)).setCell ⟨wo.heap.size, 1, none⟩ (.bool false)) := (by repeat (first | with_reducible exact Mod.refl _ _ | refine Mod.drew ?_ | refine Mod.drewN ?_ _ | refine Mod.set1 ?_ _))
              have RL := Lib.hid (ownvs_y (ownvs_mod o6 hM6 (fun k hk he => by simp at hk; omega)))
              have OG := Lib.hid ((HGO.out.ext E6').mod hM6 (fun k hk he => by have := HGO.out.row k hk; omega) (fun k _ hk he => hk he))
              have hz6 := E6'.size
              have hrow := Lib.hid HGO.out.row
              have R6 := Lib.hid r6
              have HB7 := Lib.hid hB7
              clear o6 r6 hB7
              go_wp2_with (at_builtin; refine wpList_app (e := Rep.sl Ub) (B := fun k => k ≠ wo.heap.size) rfl (.tmp 73) (.tmp 74) rfl Try.underlying36 info_rows rfl OG.out rfl RL.out rfl (fun k _ hk => ⟨by simp at hk; omega, fun he => by have := hrow.out k he; simp at hk; omega⟩) (N := done.length + l.length) rfl (by unfold maxLen; omega) (by omega) (by simp; omega) ?_; intro A7 c7 w7 o7 M7 B7)
              go_roundw
              case rel =>
                obtain ⟨p1, p2, p3, p4⟩ := back_post (g := wo.heap.size) (m := m) rfl hEx E6' HBX.out R6.out hM6 HB7.out HGO.out o7 M7 HST.out hm1
                (try rw [Nat.sub_self] at p1)
                exact ⟨rest.drop m, r, done ++ l, rem2, A6, c6, m, rfl, hm0, hm2, p1, p2, p3, o7, HF2.out, (by rw [List.append_assoc, ← HRM.out]; exact HDN.out), HS2.out, HB2.out, HBD.out, hrl2, (by rw [List.length_drop]; omega), p4⟩
              case measure => simp [lenOfV]; try omega
          · have h0 : rest = [] := List.eq_nil_of_length_eq_zero (by omega)
            subst h0
            have h1 := HFDx.out
            rw [List.append_nil, HSTK.out] at h1
            simp only [Prod.mk.injEq, Option.some.injEq] at h1
            obtain ⟨rfl, rfl⟩ := h1
            have h2 := HDN.out
            rw [List.append_nil] at h2
            have HD2 := Lib.hid h2
            clear h2
            go_wp2_with ((go_at_call 17; refine (lists_any _ _ done ls _ (y_rdls HGO.out.rdT.y) (H.out.ext (HE0.out.trans hEx))).mono ?_; rintro e w8 ⟨rfl, E8⟩))
            go_ret
            exact ⟨by simp [HD2.out], (HE0.out.trans hEx).trans E8⟩
theorem u8_bd' {x : Int} (h : (Lit.int .u8 x).wf = true) : 0 ≤ x ∧ x ≤ 255 := by
  simpa [Lit.wf, IntKind.min, IntKind.max, IntKind.signed, IntKind.bits] using h
/-- an argument of rows of bytes -/
theorem opens_lns {H : Type} {enc : TypeId × Value → H} (W : World) : Opens enc Try.prog W 36 (Rep.sl (Rep.sl Ub)) (fun l => ∀ x ∈ l, Bs x) := by
  have h1 := opens_slice (enc := enc) (W := W) Try.underlying36 (by kernel_rfl) (opens_slice Try.underlying22 (by kernel_rfl) (opens_int Try.underlying5))
  intro fuel cs x h hw
  obtain ⟨l, hr, hR⟩ := h1 fuel cs x h hw
  exact ⟨l, hr, fun y hy z hz => u8_bd' ((hR.1 y hy).1 z hz)⟩
set_option maxRecDepth 100000 in
theorem frameBack_lifted (os : Os) (started : os.Started) (H : Type) (enc : TypeId × Value → H) :
    ReturnsInHanded {} Try.checked os 6 .any (Rows.frameBackSpec.pre6 enc Try.prog Try.f6 Rows.frameBackRow.domain false) (Rows.frameBackSpec.post enc Try.prog Try.f6 false true false false) := by
  refine returnsInHanded_of_change_sized (C := Try.checked) (by kernel_rfl) started (by kernel_rfl) Try.func6
    (ChangeSpec.witness6 (enc := enc) (C := Try.checked) false ⟨#[], #[.slice none 0 0, .int .u8 0], []⟩ 8 (by kernel_rfl) (by kernel_rfl) (by kernel_rfl) (by kernel_rfl)) ?_
  intro W base args ds gs before hval0 hW _ hsz0 _
  have hsz : (DataW.weightsEach Try.prog (Try.f6.params.toList ++ Rows.frameBackSpec.plain.varTypes Try.prog) (ds ++ gs)).all (· ≤ reachBytes) = true := hsz0
  clear hsz0
  have hval : ∀ (j : Nat) t v, Try.f6.params[j]? = some t → args[j]? = some v → Value.okWide Try.prog W .any base t v := hval0
  have hW' := hW
  obtain ⟨p, q, hA0, hV, rfl, _, _⟩ := hW
  have hA : DataW.TrodAll enc Try.prog W 0 (fun _ => true) true Try.f6.params.toList args.toList ds p := hA0
  rw [Try.params6] at hA hval hsz
  obtain ⟨rfl, rfl⟩ := trodVars_none hV
  have hkeep := hA
  have hlt : ∀ x ∈ p, x.block < W.heap.size := fun x hx => hW'.lt x (by simpa using hx)
  clear hA0 hval0
  obtain ⟨v0, vs0, d0, ds0, p0, q0, hargs, rfl, rfl, h0, r0⟩ := trodAll_cons hA
  obtain ⟨v1, vs1, d1, ds1, p1, q1, rfl, rfl, rfl, h1, r1⟩ := trodAll_cons r0
  obtain ⟨rfl, rfl, rfl⟩ := trodAll_nil r1
  obtain rfl : args = #[v0, v1] := by cases args; simp_all
  simp only [List.cons_append, List.nil_append, DataW.weightsEach, List.all_append, Bool.and_eq_true] at hsz
  obtain ⟨ls, hx, hb⟩ := (opens_lns (enc := enc) W).slice Try.underlying36 (hval 0 36 v0 rfl rfl) h0 hsz.1
  obtain ⟨n, rfl, rfl, rfl, hn⟩ := open_int Try.underlying5 (hval 1 5 v1 rfl rfl) h1
  have hn' := u8_bd' hn
  refine (frameBack_walk v0 ls n W (y_rdls hx.y) hb hn'.1 hn'.2).mono fun e W' ⟨he, hE⟩ => ?_
  subst he
  exact ⟨_, rfl, _, _, _, [], _, [], hW', trodAll_mk1 (shut_bool Try.underlying4 _), trodAll_stays (by kernel_rfl) (by kernel_rfl) hkeep hE hlt, rfl, hE.frame _, fun h => by cases h⟩
/-- THE STATEMENT -/
theorem frameBack_holds : Rows.FrameBackSaid :=
  OpenClaim.holds_of_wide 6 Try.f6 rfl rfl rfl rfl rfl rfl rfl ⟨rfl, rfl, rfl, rfl, rfl⟩ rfl rfl rfl rfl rfl (by kernel_rfl) Try.func6 (by kernel_rfl)
    (of_decide_eq_true (by kernel_rfl)) (by unfold Func.isWrapper; first | (rw [if_pos (by decide +kernel)]; kernel_rfl) | (rw [if_neg (by decide +kernel)]; exact ⟨rfl, rfl⟩))
    (fun os started H enc _ => frameBack_lifted os started H enc)
end Go.Proofs.Ytladfocmmhagbaa
