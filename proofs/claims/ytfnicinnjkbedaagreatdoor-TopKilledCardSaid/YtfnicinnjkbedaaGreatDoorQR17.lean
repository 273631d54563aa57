/- A line that is killed is read as nothing, walked: the law answers true. Conditions: the setting is one, bytes are bytes. -/
import Derived.Test.YtfnicinnjkbedaaGreatDoorQQ17
namespace Go.Proofs.YtfnicinnjkbedaaGreatDoor
open Go.RowKit Go.Kb
set_option maxRecDepth 100000

theorem lit_two {p g : Nat} {wb w' : World} {c : Int} (hp : p < wb.heap.size) (hg : g < wb.heap.size) (M : Mod (two p g) (wb.alloc (.cells #[.int .u8 c] 5)) w') : RI .u8 w' (.slice (some ⟨wb.heap.size, 0, none⟩) 1 1) [c] :=
  (RI.lit .u8 [c] _ rfl (by simp)).mod M (fun k hk hs => by
    simp only [Value.ownBlock, Option.some.injEq] at hk
    rcases hs with h | h <;> omega)
theorem Pt.lt {X : Nat → Prop} {p g : Nat} {w : World} {y : Py} {d : Ds} (h : Pt X p g w y d) : p < w.heap.size ∧ g < w.heap.size := ⟨h.blk.lt, h.dsc.2.1.2 g (.inr (.inl rfl))⟩
set_option maxHeartbeats 3000000 in
theorem topKilled_walk (t : Tm) (v1 v2 : Value) (text more : List Int) (w : World) (ht : t.Ok) (h1 : RI .u8 w v1 text) (h2 : RI .u8 w v2 more) :
    Calls Tryz.prog 3 #[.agg t.arr, v1, v2] w fun e w' => e = .returned (.bool true) ∧ Ext w w' := by
  have hi0 := info_tm ht
  have HPS := Lib.hid (fun w' => plainSet_any t w' ht)
  have hT := Lib.hid (Blk.new w 26 t.arr)
  have hs := plT_pl ht
  have hz : (plT t).arr.size = t.arr.size := by rw [Tm.size hs.ok, Tm.size ht]
  obtain ⟨s, hss⟩ : ∃ s, plT t = s := ⟨_, rfl⟩
  rw [hss] at hs HPS hz
  have hi := info_tm hs.ok
  have HCH := Lib.hid (fun w' => char_any s 4 w' hs.ok)
  have HPT1 := Lib.hid (fun w' h => plainText_any s v1 text w' hs.ok h)
  have HPT2 := Lib.hid (fun w' h => plainText_any s v2 more w' hs.ok h)
  have HKB := Lib.hid (charL_bd hs.ok 4)
  have HIS := Lib.hid (fun op c w' => is_any s op c w' hs.ok)
  have HS0 := Lib.hid hs
  have H1 := Lib.hid h1
  have H2 := Lib.hid h2
  have h1o := Lib.hid (Tm.one s)
  have hk4 := isL_eq s 4
  clear ht hss hs h1 h2
  go_enter Tryz.func3, Tryz.ntmps3
  go_wp2_with fail
  refine (shaken_any _).mono ?_
  rintro e w1 ⟨rfl, E1⟩
  have B1 := Lib.hid (hT.out.ext E1)
  have E01 : Ext w w1 := (by repeat (first | with_reducible exact Ext.refl _ | refine Ext.drewN ?_ _ | refine Ext.drew ?_ | refine Ext.alloc ?_ _ | assumption | (refine Below.trans ?_ (by assumption)) | (refine Ext.trans ?_ (by assumption)) | (refine Below.trans ?_ (Below.mono (by assumption) (by omega)))))
  clear E1
  go_wp2_with (refine wpList_load_row rfl 26 _ rfl w.heap.size rfl 26 t.arr _ _ B1.out Tryz.underlying26 rfl hi0 ?_)
  refine (HPS.out _).mono ?_
  rintro e w2 ⟨rfl, E2⟩
  have B2 := Lib.hid (B1.out.ext E2)
  have E02 : Ext w w2 := E01.trans E2
  clear E2 B1 E01
  go_wp2_with (first | (refine wpList_store_A rfl 26 _ _ rfl w.heap.size s.arr rfl rfl 26 t.arr B2.out hi hz.symm h1o.out ?_; intro w3 H3 E3; have HS := Lib.hid H3; have E03 : Ext w w3 := E3 w.heap.size w E02 (Nat.le_refl _); clear H3 E3) | (refine wpList_load_row rfl 26 _ rfl w.heap.size rfl 26 s.arr _ _ (HS.out.ext (by repeat (first | with_reducible exact Ext.refl _ | refine Ext.drewN ?_ _ | refine Ext.drew ?_ | refine Ext.alloc ?_ _ | assumption | (refine Below.trans ?_ (by assumption)) | (refine Ext.trans ?_ (by assumption)) | (refine Below.trans ?_ (Below.mono (by assumption) (by omega)))))) Tryz.underlying26 rfl hi ?_))
  clear E02 B2
  refine (HCH.out _).mono ?_
  rintro e w4 ⟨rfl, E4⟩
  have E34 : Ext w3 w4 := (by repeat (first | with_reducible exact Ext.refl _ | refine Ext.drewN ?_ _ | refine Ext.drew ?_ | refine Ext.alloc ?_ _ | assumption | (refine Below.trans ?_ (by assumption)) | (refine Ext.trans ?_ (by assumption)) | (refine Below.trans ?_ (Below.mono (by assumption) (by omega)))))
  clear E4
  obtain ⟨⟨kc, kq⟩, hkk⟩ : ∃ x, charL s 4 = x := ⟨_, rfl⟩
  rw [hkk] at HKB hk4
  rw [hkk]
  clear hkk HCH
  cases kq with
  | false =>
    go_wp2
    go_ret
    exact ⟨rfl, E03.trans E34⟩
  | true =>
    have HK4 : Hid (isL s 4 kc = true) := Lib.hid (by rw [hk4]; simp)
    clear hk4
    go_wp2_with (first | (refine wpList_load_row rfl 26 _ rfl w.heap.size rfl 26 s.arr _ _ (HS.out.ext (by repeat (first | with_reducible exact Ext.refl _ | refine Ext.drewN ?_ _ | refine Ext.drew ?_ | refine Ext.alloc ?_ _ | assumption | (refine Below.trans ?_ (by assumption)) | (refine Ext.trans ?_ (by assumption)) | (refine Below.trans ?_ (Below.mono (by assumption) (by omega)))))) Tryz.underlying26 rfl hi ?_) | (refine wpList_openG rfl rfl ?_; (refine wpList_load_row rfl 26 _ rfl w.heap.size rfl 26 s.arr _ _ (HS.out.ext (by repeat (first | with_reducible exact Ext.refl _ | refine Ext.drewN ?_ _ | refine Ext.drew ?_ | refine Ext.alloc ?_ _ | assumption | (refine Below.trans ?_ (by assumption)) | (refine Ext.trans ?_ (by assumption)) | (refine Below.trans ?_ (Below.mono (by assumption) (by omega)))))) Tryz.underlying26 rfl hi ?_)))
    refine (HPT1.out _ (H1.out.ext (E03.trans (by exact (by repeat (first | with_reducible exact Ext.refl _ | refine Ext.drewN ?_ _ | refine Ext.drew ?_ | refine Ext.alloc ?_ _ | assumption | (refine Below.trans ?_ (by assumption)) | (refine Ext.trans ?_ (by assumption)) | (refine Below.trans ?_ (Below.mono (by assumption) (by omega))))))))).mono ?_
    rintro e w5 ⟨q1, rfl, P1, E5⟩
    have E35 : Ext w3 w5 := (by repeat (first | with_reducible exact Ext.refl _ | refine Ext.drewN ?_ _ | refine Ext.drew ?_ | refine Ext.alloc ?_ _ | assumption | (refine Below.trans ?_ (by assumption)) | (refine Ext.trans ?_ (by assumption)) | (refine Below.trans ?_ (Below.mono (by assumption) (by omega)))))
    clear E5 E34
    cases q1 with
    | false =>
      go_wp2
      go_ret
      exact ⟨rfl, E03.trans E35⟩
    | true =>
      have HP1 := Lib.hid (P1 rfl)
      clear P1
      go_wp2_with (first | (refine wpList_load_row rfl 26 _ rfl w.heap.size rfl 26 s.arr _ _ (HS.out.ext (by repeat (first | with_reducible exact Ext.refl _ | refine Ext.drewN ?_ _ | refine Ext.drew ?_ | refine Ext.alloc ?_ _ | assumption | (refine Below.trans ?_ (by assumption)) | (refine Ext.trans ?_ (by assumption)) | (refine Below.trans ?_ (Below.mono (by assumption) (by omega)))))) Tryz.underlying26 rfl hi ?_) | (refine wpList_openG rfl rfl ?_; (refine wpList_load_row rfl 26 _ rfl w.heap.size rfl 26 s.arr _ _ (HS.out.ext (by repeat (first | with_reducible exact Ext.refl _ | refine Ext.drewN ?_ _ | refine Ext.drew ?_ | refine Ext.alloc ?_ _ | assumption | (refine Below.trans ?_ (by assumption)) | (refine Ext.trans ?_ (by assumption)) | (refine Below.trans ?_ (Below.mono (by assumption) (by omega)))))) Tryz.underlying26 rfl hi ?_)))
      refine (HPT2.out _ (H2.out.ext (E03.trans (by exact (by repeat (first | with_reducible exact Ext.refl _ | refine Ext.drewN ?_ _ | refine Ext.drew ?_ | refine Ext.alloc ?_ _ | assumption | (refine Below.trans ?_ (by assumption)) | (refine Ext.trans ?_ (by assumption)) | (refine Below.trans ?_ (Below.mono (by assumption) (by omega))))))))).mono ?_
      rintro e w6 ⟨q2, rfl, P2, E6⟩
      have E36 : Ext w3 w6 := (by repeat (first | with_reducible exact Ext.refl _ | refine Ext.drewN ?_ _ | refine Ext.drew ?_ | refine Ext.alloc ?_ _ | assumption | (refine Below.trans ?_ (by assumption)) | (refine Ext.trans ?_ (by assumption)) | (refine Below.trans ?_ (Below.mono (by assumption) (by omega)))))
      clear E6 E35
      cases q2 with
      | false =>
        go_wp2
        go_ret
        exact ⟨rfl, E03.trans E36⟩
      | true =>
        have HP2 := Lib.hid (P2 rfl)
        clear P2
        by_cases hk10 : kc = 10
        · subst hk10
          go_wp2
          go_ret
          exact ⟨rfl, E03.trans E36⟩
        · by_cases hk13 : kc = 13
          · subst hk13
            go_wp2
            go_ret
            exact ⟨rfl, E03.trans E36⟩
          · have hk10' : (kc == 10) = false := by simpa using hk10
            have hk13' : (kc == 13) = false := by simpa using hk13
            go_wp2
            go_loopw [9] (fun i wr => ∃ q : Nat, 1 ≤ q ∧ q ≤ 19 ∧ i = .int .i64 q ∧ Hid (∀ op : Int, 1 ≤ op → op < q → op ≠ 4 → isL s op kc = false) ∧ Ext w3 wr) (fun i _ => 19 - (intOf i).toNat)
            case atStart => exact ⟨1, by omega, by omega, rfl, Lib.hid (fun op h1 h2 => by omega), E36⟩
            case round =>
              obtain ⟨q, hq1, hq2, rfl, HQ, hE⟩ := hrel
              obtain ⟨wq, hwq⟩ : ∃ wq, wq = wr := ⟨_, rfl⟩
              rw [← hwq] at hE ⊢
              clear hwq E36
              by_cases hq : q < 19
              · have hqq : ¬ (18 < (q : Int)) := by omega
                by_cases hq4 : q = 4
                · subst hq4
                  go_wp2
                  go_roundw
                  case rel => exact ⟨5, by omega, by omega, by go_num, Lib.hid (fun op h1 h2 h3 => HQ.out op h1 (by omega) h3), hE⟩
                  case measure => simp [intOf]
                · have hq4' : ¬ ((q : Int) = 4) := by omega
                  have hq4b : ((q : Int) == 4) = false := by simpa using hq4'
                  have hq4c : ((q : Int) != 4) = true := by simpa using hq4'
                  have hq4d : decide ((q : Int) = 4) = false := by simpa using hq4'
                  have HI := Lib.hid (HIS.out q kc)
                  obtain ⟨r, hr⟩ : ∃ r, isL s q kc = r := ⟨_, rfl⟩
                  rw [hr] at HI
                  have HR := Lib.hid hr
                  clear hr
                  go_wp2_with (refine wpList_openG rfl rfl ?_; (refine wpList_load_row rfl 26 _ rfl w.heap.size rfl 26 s.arr _ _ (HS.out.ext (by repeat (first | with_reducible exact Ext.refl _ | refine Ext.drewN ?_ _ | refine Ext.drew ?_ | refine Ext.alloc ?_ _ | assumption | (refine Below.trans ?_ (by assumption)) | (refine Ext.trans ?_ (by assumption)) | (refine Below.trans ?_ (Below.mono (by assumption) (by omega)))))) Tryz.underlying26 rfl hi ?_))
                  refine (HI.out _).mono ?_
                  rintro e w9 ⟨rfl, E9⟩
                  cases r with
                  | true =>
                    go_wp2
                    go_ret
                    exact ⟨rfl, E03.trans (hE.trans E9)⟩
                  | false =>
                    go_wp2
                    go_roundw
                    case rel => exact ⟨q + 1, by omega, by omega, by go_num, Lib.hid (fun op h1 h2 h3 => by
                      by_cases h : op = q
                      · rw [h]; exact HR.out
                      · exact HQ.out op h1 (by omega) h3), hE.trans E9⟩
                    case measure => simp [intOf]; omega
              · obtain rfl : q = 19 := by omega
                have HKC := Lib.hid (show KiC s kc from ⟨HKB.out, hk13, HK4.out, fun op h1 h2 h3 => HQ.out op h1 (by omega) h3⟩)
                clear HQ hq hq1 hq2
                obtain ⟨A1, c1, rfl, -, -⟩ := H1.out.shape
                obtain ⟨A2, c2, rfl, -, -⟩ := H2.out.shape
                obtain ⟨n1, hn1⟩ : ∃ n, text.length = n := ⟨_, rfl⟩
                obtain ⟨n2, hn2⟩ : ∃ n, more.length = n := ⟨_, rfl⟩
                have HN1 := Lib.hid hn1
                have HN2 := Lib.hid hn2
                have HR1 := Lib.hid (show RdN w 1 (.slice A1 n1 c1) text.length (text.map (Value.int .u8)) by rw [← hn1]; exact H1.out)
                have HR2 := Lib.hid (show RdN w 1 (.slice A2 n2 c2) more.length (more.map (Value.int .u8)) by rw [← hn2]; exact H2.out)
                have L1 := HP1.out.len
                have L2 := HP2.out.len
                rw [hn1] at L1
                rw [hn2] at L2
                rw [hn1, hn2]
                clear hn1 hn2 H1 H2 HPT1 HPT2
                obtain ⟨wz, hwz⟩ : ∃ wz, wq.alloc (.cells #[] 5) = wz := ⟨_, rfl⟩
                have EZ : Ext w wz := by rw [← hwz]; exact (E03.trans hE).alloc _
                have E3Z : Ext w3 wz := by rw [← hwz]; exact hE.alloc _
                have hO := Lib.hid (show OwnS Ub 5 w3.heap.size (fun _ => False) wz (.slice (some ⟨wq.heap.size, 0, none⟩) 0 0) [] by rw [← hwz]; exact OwnS.empty Ub _ _ rfl hE.size)
                have HWZ := Lib.hid hwz
                have hR := Lib.hid (RdN.ext HR1.out EZ)
                have HZB := Lib.hid E3Z.size
                clear hwz
                go_wp2_with (first
                  | (at_builtin; rw [HWZ.out]; refine wpList_app (e := Ub) (base := w3.heap.size) (B := fun _ => False) (A := fun _ => False) rfl (.tmp 59) (.tmp 60) rfl Tryz.underlying27 info_u8 rfl hO.out rfl (RI.y (show RI .u8 wz (.slice A1 n1 c1) text from hR.out)) rfl (fun _ _ h => h.elim) (N := n1) (by rw [HN1.out]; simp) (by unfold maxLen; omega) (by omega) HZB.out ?_; intro A7 c7 w7 o7 M7 B7)
                  | (at_builtin; refine wpList_app (e := Ub) (base := w3.heap.size) (B := fun _ => False) (A := fun _ => False) rfl (.tmp 61) (.tmp 62) rfl Tryz.underlying27 info_u8 rfl o7 rfl (RI.y (show RI .u8 w7 (.slice A2 n2 c2) more from RdN.ext HR2.out (E03.trans (Below.trans E3Z B7)))) rfl (fun _ _ h => h.elim) (N := n1 + n2) (by rw [List.nil_append, HN1.out, HN2.out]) (by unfold maxLen; omega) (by omega) (Below.trans E3Z B7).size ?_; intro A8 c8 w8 o8 M8 B8))
                have E38 : Ext w3 w8 := Below.trans (Below.trans E3Z B7) B8
                have O8 := Lib.hid (show RI .u8 w8 (.slice A8 (n1 + n2) c8) (text ++ more) from by have h9 := RdY.ri o8.y; rw [List.nil_append] at h9; exact h9)
                have HLL := Lib.hid (show (text ++ more).length = n1 + n2 by rw [List.length_append, HN1.out, HN2.out])
                clear o7 o8 M7 M8 B7 B8 hO hR HZB HWZ EZ E3Z
                go_loopw [65] (fun i wr => ∃ k : Nat, k ≤ n1 + n2 ∧ i = .int .i64 k ∧ Hid (∀ c ∈ (text ++ more).take k, c ≠ 10) ∧ Ext w8 wr) (fun i _ => n1 + n2 - (intOf i).toNat)
                case atStart => exact ⟨0, Nat.zero_le _, rfl, Lib.hid (by simp), Ext.refl _⟩
                case round =>
                  obtain ⟨k, hk, rfl, HC, hE9⟩ := hrel
                  obtain ⟨wp, hwp⟩ : ∃ wp, wp = wr := ⟨_, rfl⟩
                  rw [← hwp] at hE9 ⊢
                  clear hwp
                  by_cases hlt : k < n1 + n2
                  · obtain ⟨b, off, x, rfl, hx, hd⟩ := (O8.out.ext hE9).icell hlt
                    by_cases hx10 : x = 10
                    · subst hx10
                      go_wp2
                      go_ret
                      exact ⟨rfl, E03.trans (E38.trans hE9)⟩
                    · have hx1 : (x == 10) = false := by simpa using hx10
                      go_wp2
                      go_roundw
                      case rel => exact ⟨k + 1, by omega, by go_num, Lib.hid (by
                        rw [List.take_add_one, hd.out]
                        intro c hc
                        rcases List.mem_append.1 hc with h | h
                        · exact HC.out c h
                        · simp at h; rw [h]; exact hx10), hE9⟩
                      case measure => simp [intOf]; omega
                  · obtain rfl : k = n1 + n2 := by omega
                    have HNO := Lib.hid (show ∀ c ∈ text ++ more, c ≠ 10 by
                      have h9 := HC.out
                      rw [← HLL.out, List.take_length] at h9
                      exact h9)
                    have E39 : Ext w3 wp := E38.trans hE9
                    clear HC hE9 E38 O8 hlt hk
                    go_wp2_with ((refine wpList_load_row rfl 26 _ rfl w.heap.size rfl 26 s.arr _ _ (HS.out.ext (by repeat (first | with_reducible exact Ext.refl _ | refine Ext.drewN ?_ _ | refine Ext.drew ?_ | refine Ext.alloc ?_ _ | assumption | (refine Below.trans ?_ (by assumption)) | (refine Ext.trans ?_ (by assumption)) | (refine Below.trans ?_ (Below.mono (by assumption) (by omega)))))) Tryz.underlying26 rfl hi ?_))
                    refine (opened_any s _ HS0.out.ok).mono ?_
                    rintro e wa ⟨p, g, rfl, Pa, Ea, b1, b2⟩
                    have E3a : Ext w3 wa := E39.trans Ea
                    have z3 : w3.heap.size ≤ wp.heap.size := E39.size
                    have z0 : w.heap.size ≤ w3.heap.size := E03.size
                    have HPa := Lib.hid Pa
                    have TEX : ∀ wm w', Ext w wm → Mod (two p g) wm w' → Ext w w' := fun wm w' E M => Mod.toExt E M (by rintro k hk (rfl | rfl) <;> omega)
                    have TX := Lib.hid TEX
                    have La : LineS s [] ([] ++ text.take 0) (newD s) := ⟨rfl, by simp [newD], rfl, rfl, rfl, rfl⟩
                    have HLa := Lib.hid La
                    have HEa := Lib.hid (E03.trans E3a)
                    clear Pa Ea E39 TEX La E3a hE
                    go_wp2_with fail
                    refine (mwrite_any (fun k d => LineS s [] ([] ++ text.take k) d) (.slice A1 n1 c1) text (newD s) _ HPa.out rfl rfl HLa.out (tyok_text HS0.out (fun c hc => ⟨(HP1.out.ch c hc).1, HNO.out c (List.mem_append_left _ hc)⟩) (by rw [HN1.out]; simp; omega) (by simp [Ca.usedL])) (by rw [HN1.out]; omega) (fun w' M => RdN.ext HR1.out (TX.out _ _ HEa.out M))).mono ?_
                    rintro e wb ⟨A9, c9, rfl, db, Sb, Pb, Mb⟩
                    have HPb := Lib.hid Pb
                    have HSb := Lib.hid (show LineS s [] text db by rw [List.take_length, List.nil_append] at Sb; exact Sb)
                    have HEb := Lib.hid (TX.out _ _ HEa.out Mb)
                    clear Pb Sb Mb HPa HLa HEa
                    go_wp2_with fail
                    refine (mwrite_any (fun k d => if k = 0 then LineS s [] text d else LineS s [] [] d) (.slice (some ⟨wb.heap.size, 0, none⟩) 1 1) [kc] db _ (HPb.out.ext ((Ext.refl _).alloc _)) rfl rfl (by rw [if_pos rfl]; exact HSb.out) (tyok_kill HS0.out HKC.out (by rw [HN1.out]; omega) (by simp [Ca.usedL])) (by simp) (fun w' M => lit_two HPb.out.lt.1 HPb.out.lt.2 M)).mono ?_
                    rintro e wc ⟨A8, c8, rfl, dc, Sc, Pc, Mc⟩
                    have HPc := Lib.hid Pc
                    have HSc := Lib.hid (show LineS s [] ([] ++ more.take 0) dc by simpa using Sc)
                    have HEc := Lib.hid (TX.out _ _ (HEb.out.alloc _) Mc)
                    clear Pc Sc Mc HPb HSb HEb
                    go_wp2_with fail
                    refine (mwrite_any (fun k d => LineS s [] ([] ++ more.take k) d) (.slice A2 n2 c2) more dc _ HPc.out rfl rfl HSc.out (tyok_text HS0.out (fun c hc => ⟨(HP2.out.ch c hc).1, HNO.out c (List.mem_append_right _ hc)⟩) (by rw [HN2.out]; simp; omega) (by simp [Ca.usedL])) (by rw [HN2.out]; omega) (fun w' M => RdN.ext HR2.out (TX.out _ _ HEc.out M))).mono ?_
                    rintro e wd ⟨A7, c7, rfl, dd, Sd, Pd, Md⟩
                    have HPd := Lib.hid Pd
                    have HSd := Lib.hid (show LineS s [] more dd by rw [List.take_length, List.nil_append] at Sd; exact Sd)
                    have HEd := Lib.hid (TX.out _ _ HEc.out Md)
                    clear Pd Sd Md HPc HSc HEc
                    go_wp2_with fail
                    refine (mwrite_any (fun k d => if k = 0 then LineS s [] more d else LineS s ([] ++ [(more ++ [10], false)]) [] d) (.slice (some ⟨wd.heap.size, 0, none⟩) 1 1) [10] dd _ (HPd.out.ext ((Ext.refl _).alloc _)) rfl rfl (by rw [if_pos rfl]; exact HSd.out) (tyok_newline HS0.out HP1.out.nl (by rw [HN2.out]; omega) (by simp [Ca.usedL]) (by simp)) (by simp) (fun w' M => lit_two HPd.out.lt.1 HPd.out.lt.2 M)).mono ?_
                    rintro e we ⟨A6, c6, rfl, de, Se, Pe, Me⟩
                    have HPe := Lib.hid Pe
                    have hSe : LineS s [(more ++ [10], false)] [] de := by simpa using Se
                    have HEe := Lib.hid (TX.out _ _ (HEd.out.alloc _) Me)
                    clear Se Me HPd HSd HEd Pe
                    have hml : (more ++ [10]).length ≤ 999 := by rw [List.length_append, HN2.out]; simp; omega
                    have hrl : Ca.readL de.ls 999 = (more ++ [10], [], true) := by
                      rw [hSe.ls]
                      unfold Ca.readL
                      dsimp only
                      rw [if_neg (by omega), if_pos (by omega)]
                    have hus : Ca.usedL de.ls ≤ 1000 := by
                      rw [hSe.ls]
                      simp only [Ca.usedL, List.map_cons, List.map_nil, List.sum_cons, List.sum_nil, szL_false]
                      omega
                    have hrs : LineS s [] [] (de.readD 999) := ⟨hSe.t, hSe.line, by show (Ca.readL de.ls 999).2.1 = []; rw [hrl], hSe.nx, hSe.raw, hSe.hd⟩
                    have HRD := Lib.hid (fun w' h => sread_any (X := fun _ => False) (p := p) (g := g) (y := { newY with sl := 1 }) de 999 0 w' h rfl (by rw [hSe.t]; exact HS0.out.canon) (by omega) (by rw [hSe.ls]; simp) (hrs.mko (by simp [Ca.usedL])))
                    unfold SRPost at HRD
                    rw [hrl] at HRD
                    clear hrs hus hml hSe hrl
                    go_wp2_with fail
                    refine (HRD.out _ HPe.out).mono ?_
                    rintro e wf ⟨v9, rfl, r9, Pf, Mf⟩
                    have HR9 := Lib.hid r9
                    have HEf := Lib.hid (TX.out _ _ HEe.out Mf)
                    clear r9 Pf Mf HPe HEe HRD
                    obtain ⟨wy, hwy⟩ : ∃ wy, wf.alloc (.cells #[] 5) = wy := ⟨_, rfl⟩
                    have EFY : Ext wf wy := by rw [← hwy]; exact (Ext.refl _).alloc _
                    have hO := Lib.hid (show OwnS Ub 5 wf.heap.size (fun _ => False) wy (.slice (some ⟨wf.heap.size, 0, none⟩) 0 0) [] by rw [← hwy]; exact OwnS.empty Ub _ _ rfl (Nat.le_refl _))
                    have hR := Lib.hid (RdN.ext HR2.out (HEf.out.trans EFY))
                    have HZY := Lib.hid EFY.size
                    have HWY := Lib.hid hwy
                    clear hwy
                    go_wp2_with (first
                      | (refine wpList_openG rfl rfl ?_; rw [HWY.out]; refine wpList_app (e := Ub) (base := wf.heap.size) (B := fun _ => False) (A := fun _ => False) rfl (.tmp 101) (.tmp 102) rfl Tryz.underlying27 info_u8 rfl hO.out rfl (RI.y (show RI .u8 wy (.slice A2 n2 c2) more from hR.out)) rfl (fun _ _ h => h.elim) (N := n2) (by rw [HN2.out]; simp) (by unfold maxLen; omega) (by omega) HZY.out ?_; intro A5 c5 w5 o5 M5 B5)
                      | (refine wpList_openG rfl rfl ?_; refine wpList_app (e := Ub) (base := wf.heap.size) (B := fun _ => False) (A := fun _ => False) rfl (.tmp 103) (.tmp 104) rfl Tryz.underlying27 info_u8 rfl (o5.ext ((Ext.refl _).alloc _)) rfl (RI.y (RI.lit .u8 [10] _ rfl (by simp))) rfl (fun _ _ h => h.elim) (N := n2 + 1) (by rw [List.nil_append, HN2.out]; rfl) (by unfold maxLen; omega) (by omega) (by have z5 := (Below.trans EFY B5).size; simp; omega) ?_; intro A4 c4 w4' o4 M4 B4))
                    have EF4 : Ext wf w4' := Below.trans ((Below.trans EFY B5).alloc (by have z5 := (Below.trans EFY B5).size; omega) _) B4
                    have R4 := Lib.hid (show RI .u8 w4' (.slice A4 (n2 + 1) c4) (more ++ [10]) from by have h9 := RdY.ri o4.y; rw [List.nil_append] at h9; exact h9)
                    have EEN := Lib.hid (HEf.out.trans EF4)
                    have R9 := Lib.hid (HR9.out.ext EF4)
                    clear o4 o5 M4 M5 B4 B5 EFY EF4 HR9
                    refine (Fr.bytes_any _ _ (more ++ [10]) (more ++ [10]) _ R9.out R4.out).mono ?_
                    rintro e wg ⟨rfl, Eg⟩
                    have EEG := Lib.hid (EEN.out.trans Eg)
                    go_wp2
                    go_ret
                    exact ⟨by simp, EEG.out⟩
end Go.Proofs.YtfnicinnjkbedaaGreatDoor
