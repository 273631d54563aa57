/- Each timer is told once: walked; the law answers true. Conditions: numbers fit. -/
import Derived.Test.YtapajcgfdiamdaaAA07
import Derived.Deep.CutBlock
import Derived.Deep.LoopGhost
namespace Go.Proofs.Ytapajcgfdiamdaa
open Go.RowKit Go.Kb Go.Maps

set_option maxRecDepth 100000 in
set_option maxHeartbeats 30000000 in
theorem timerOnce_walk (v : Value) (l : List (Int × Int × Int)) (hwf : ∀ o ∈ l, (Lit.int .i64 o.2.1).wf = true ∧ (Lit.int .i64 o.2.2).wf = true) {A : Nat → Prop} (w : World) (h : RdY Rep.op3 A w v l) :
    Calls Try.prog 4 #[v] w fun e w' => e = .returned (.bool true) ∧ Ext w w' := by
  obtain ⟨Ad, c, rfl, hc1, hc2⟩ := h.shape
  obtain ⟨N, hN⟩ : ∃ N, l.length = N := ⟨_, rfl⟩
  rw [hN] at h hc1 ⊢
  have H := Lib.hid h
  have HWF := Lib.hid hwf
  have hmm := @run_makeMap Try.prog
  clear h hwf hN
  go_enter Try.func4, Try.ntmps4
  go_wp2_with fail
  refine (alive_any _).mono ?_
  rintro e w1 ⟨rfl, E1⟩
  by_cases hg : 200 < N
  · have hg2 : (200 : Int) < (N : Int) := by omega
    go_wp2
    go_ret
    exact ⟨rfl, E1⟩
  have hg2 : ¬ (200 : Int) < (N : Int) := by omega
  have HG := Lib.hid hg
  clear hg
  go_wp2_with fail
  refine (One.new (W0 := w) (X := fun _ => False) w1 E1 (fun _ h => h.elim)).mono ?_
  rintro e w3 ⟨T, F, rfl, ha, hfa, E2⟩
  have HT := Lib.hid ha
  clear ha hfa E1 E2 hg2
  obtain ⟨M, hM⟩ : ∃ M, w3.heap.size = M := ⟨_, rfl⟩
  obtain ⟨W3, hW3⟩ : ∃ W, W = w3.alloc (.map #[] 0) := ⟨_, rfl⟩
  have HM0 := Lib.hid (show MapL M W3 [] by rw [hW3, ← hM]; exact MapL.made w3)
  have E34 : Ext w3 W3 := by rw [hW3]; exact (Ext.refl _).alloc _
  have HT0 := Lib.hid ((HT.out.ext E34).sub (Y := fun k => k = M) (fun k hk => by
    subst hk
    exact ⟨fun hf => by have := HT.out.tm.lt k hf; omega, HM0.out.lt⟩))
  have HMW := Lib.hid (show w.heap.size ≤ M by rw [← hM]; exact HT.out.E.size)
  have HW3 := Lib.hid hW3
  have HMN := Lib.hid hM
  clear hM hW3 E34 HT
  go_wp2
  rw [HMN.out, ← HW3.out]
  clear HW3 HMN
  go_loopw [30] (fun i wr => ∃ (m : Nat) (F : Nat → Prop) (L : List (Int × Int)), m ≤ N ∧ i = .int .i64 m ∧ Hid (One w T F (fun k => k = M) wr L) ∧ Hid (MapL M wr L)) (fun i _ => N - (intOf i).toNat)
  case atStart => exact ⟨0, F, [], Nat.zero_le _, rfl, HT0, HM0⟩
  case round =>
    clear HT0 HM0 F
    obtain ⟨m, F, L, hm, rfl, HT, HM⟩ := hrel
    by_cases hmn : m < N
    · obtain ⟨b, off, ⟨kd, oi, ot⟩, rfl, hd, k0, k1, k2⟩ := op_at (H.out.ext HT.out.E) hmn
      obtain ⟨hwi, hwt⟩ := HWF.out _ (List.mem_of_getElem? hd)
      simp only at k0 k1 k2 hwi hwt
      have HWI := Lib.hid hwi
      have HWT := Lib.hid hwt
      have i1 : (0 : Int) ≤ (m : Int) := by omega
      have i2 : (m : Int) < (N : Int) := by omega
      clear hd hwi hwt
      go_upto_region 10 with fail
      obtain ⟨n, hn⟩ : ∃ n, wr.heap.size = n := ⟨_, rfl⟩
      obtain ⟨W, hW⟩ : ∃ W, W = wr.alloc (.cells #[.int .i64 kd, .int .i64 oi, .int .i64 ot] 31) := ⟨_, rfl⟩
      have B := Lib.hid (show Blk W n 31 #[.int .i64 kd, .int .i64 oi, .int .i64 ot] by rw [hW]; exact Blk.at_ _ _ hn)
      have EW : Ext wr W := by rw [hW]; exact (Ext.refl _).alloc _
      have HT1 := Lib.hid ((HT.out.ext EW).sub (Y := fun k => k = M ∨ k = n) (fun k hk => by
        rcases hk with rfl | rfl
        · exact ⟨HT.out.dis k rfl, (HM.out.ext EW).lt⟩
        · exact ⟨fun hf => by have := HT.out.tm.lt k hf; omega, B.out.lt⟩))
      have HM1 := Lib.hid (HM.out.ext EW)
      have HNN := Lib.hid (show n ≠ M by have := HM.out.lt; omega)
      have HND := Lib.hid HT.out.tm.nd
      have HSL := Lib.hid HT.out.tm.small
      rw [hn, ← hW]
      have b0 := B.out.cell 0
      have b1 := B.out.cell 1
      have b2 := B.out.cell 2
      simp at b0 b1 b2
      clear hW EW hn k0 k1 k2 HT HM
      go_upto_block 2 with fail
      go_cut [30] (fun s30 wx => s30 = .int .i64 m ∧ ∃ (F : Nat → Prop) (L : List (Int × Int)), Hid (One w T F (fun k => k = M) wx L) ∧ Hid (MapL M wx L))
      case first =>
        by_cases hkd : kd = 1
        · have hkb : (kd == 1) = true := by simpa using hkd
          clear hkd
          cases hfl : fullL L oi
          · obtain ⟨he, hs⟩ := setO_done (due := ot) hfl
            have hc := HT1.out.set oi ot HWI.out
            rw [he, hs] at hc
            have HC := Lib.hid hc
            clear hfl he hs hc
            go_wp2_with fail
            refine HC.out.mono ?_
            rintro e w4 ⟨rfl, F4, h4, _, M4⟩
            have B4 := Lib.hid (B.out.mod M4 (fun h => HT1.out.dis n (.inr rfl) h))
            have HM4 := Lib.hid (HM1.out.mod M4 (fun h => HT1.out.dis M (.inl rfl) h))
            have HT4 := Lib.hid h4
            have b0 := B4.out.cell 0
            have b1 := B4.out.cell 1
            have b2 := B4.out.cell 2
            simp at b0 b1 b2
            clear h4 M4 HT1 HM1 B HC
            go_wp2_with (at_mapUpdate; refine wpList_lput rfl _ _ _ rfl rfl HM4.out HND.out oi ot rfl rfl HWI.out HWT.out (by have := HSL.out; omega) ?_; intro w6 hm6 M6)
            go_meet
            exact ⟨rfl, F4, _, Lib.hid ((HT4.out.other M6 (fun k hk => by rw [hk]; exact ⟨HMW.out, HT4.out.dis M (.inl rfl)⟩)).sub (Y := fun k => k = M) (fun k hk => ⟨HT4.out.dis k (.inl hk), by rw [hk]; exact hm6.lt⟩)), Lib.hid hm6⟩
          · obtain ⟨he, hs⟩ := setO_full (due := ot) hfl
            have hc := HT1.out.set oi ot HWI.out
            rw [he, hs] at hc
            have HC := Lib.hid hc
            clear hfl he hs hc
            go_wp2_with fail
            refine HC.out.mono ?_
            rintro e w4 ⟨rfl, F4, h4, _, M4⟩
            have HM4 := Lib.hid (HM1.out.mod M4 (fun h => HT1.out.dis M (.inl rfl) h))
            have HT4 := Lib.hid h4
            clear h4 M4 HT1 HM1 B HC b0 b1 b2
            go_wp2
            go_meet
            exact ⟨rfl, F4, L, Lib.hid (HT4.out.sub (Y := fun k => k = M) (fun k hk => ⟨HT4.out.dis k (.inl hk), by rw [hk]; exact HM4.out.lt⟩)), HM4⟩
        have hkb : (kd == 1) = false := by simpa using hkd
        by_cases hkd2 : kd = 2
        · have hkb2 : (kd == 2) = true := by simpa using hkd2
          have HC := Lib.hid (HT1.out.cancel oi HWI.out)
          clear hkd2 hkd
          go_upto_region 15 with fail
          go_cut [8] (fun s8 wx => s8 = .bool (hasL L oi) ∧ wx = W)
          case first =>
            cases hh : hasL L oi
            · have HH := Lib.hid hh
              clear hh
              go_wp2_with (at_lookup; refine wpList_lmiss rfl _ _ rfl rfl HM1.out oi HH.out rfl HWI.out ?_)
              go_meet
              exact ⟨by rw [HH.out], rfl⟩
            · obtain ⟨tt, htt⟩ := has_mem hh
              have HH := Lib.hid htt
              have HB := Lib.hid hh
              clear hh htt
              go_wp2_with (at_lookup; refine wpList_lhit rfl _ _ rfl rfl HM1.out oi tt HH.out rfl HWI.out ?_)
              go_meet
              exact ⟨by rw [HB.out], rfl⟩
          case rest =>
            obtain ⟨rfl, hw⟩ := hcut
            subst hw
            clear b0 b2
            go_wp2_with fail
            refine HC.out.mono ?_
            rintro e w4 ⟨rfl, h4, M4⟩
            have B4 := Lib.hid (B.out.mod M4 (fun h => HT1.out.dis n (.inr rfl) h))
            have HM4 := Lib.hid (HM1.out.mod M4 (fun h => HT1.out.dis M (.inl rfl) h))
            have HT4 := Lib.hid h4
            have b1 := B4.out.cell 1
            simp at b1
            clear h4 M4 HT1 HM1 B HC
            go_wp2_with (refine wpList_ldel rfl _ _ rfl rfl HM4.out HND.out oi rfl HWI.out ?_; intro w6 hm6 M6)
            go_meet
            exact ⟨rfl, F, _, Lib.hid ((HT4.out.other M6 (fun k hk => by rw [hk]; exact ⟨HMW.out, HT4.out.dis M (.inl rfl)⟩)).sub (Y := fun k => k = M) (fun k hk => ⟨HT4.out.dis k (.inl hk), by rw [hk]; exact hm6.lt⟩)), Lib.hid hm6⟩
        have hkb2 : (kd == 2) = false := by simpa using hkd2
        by_cases hkd3 : kd = 3
        ·
          have hkb3 : (kd == 3) = true := by simpa using hkd3
          obtain ⟨k, hk, hD, hR, hlt, hlate⟩ := due_cut ot L
          have hc := HT1.out.due ot
          rw [hD, hR] at hc
          rw [show ((L.take k).map (·.1)).length = k by rw [List.length_map, List.length_take]; omega] at hc
          have HC := Lib.hid hc
          have HSRT := Lib.hid HT1.out.tm.srt
          have HWL := Lib.hid HT1.out.tm.wf
          have HLT := Lib.hid hlt
          have HLATE := Lib.hid hlate
          have HKL := Lib.hid hk
          have HWM := Lib.hid HM1.out.lt
          have HWN := Lib.hid B.out.lt
          clear hkd3 hkd2 hkd hc hD hR hlt hlate hk b0 b1
          go_wp2_with fail
          refine HC.out.mono ?_
          rintro e W4 ⟨A5, c5, rfl, o5, h4, M4⟩
          have B4 := Lib.hid (B.out.mod M4 (fun h => HT1.out.dis n (.inr rfl) h))
          have HM4 := Lib.hid (HM1.out.mod M4 (fun h => HT1.out.dis M (.inl rfl) h))
          have HT4 := Lib.hid h4
          have HCELL := Lib.hid (show ∀ w', Mod (fun k => k = M) W4 w' → ∀ j d, j < k → L[j]? = some d → ∃ b off, A5 = some ⟨b, off, none⟩ ∧ w'.cell? ⟨b, off + j, none⟩ = some (.int .i64 d.1) from fun w' M5 j d hj hd =>
            int_atc (o5.mod M5 (fun q hq he => by have := (o5.row q hq).1; have := HWM.out; omega) (fun _ _ hq _ => hq)).y (by rw [List.getElem?_map, List.getElem?_take_of_lt hj, hd]; rfl) hj)
          have HKLT := Lib.hid (show k ≤ 256 by have := HKL.out; have := HSL.out; omega)
          have hk256 := HKLT.out
          have b2 := B4.out.cell 2
          simp at b2
          clear o5 h4 M4 HT1 HM1 B HC hkb hkb2 hkb3
          go_wp2
          go_loopw [76] (fun i wr => ∃ m2 : Nat, m2 ≤ k ∧ i = .int .i64 m2 ∧ W4 = wr) (fun i _ => k - (intOf i).toNat)
          case atStart => exact ⟨0, Nat.zero_le _, rfl, rfl⟩
          case round =>
            obtain ⟨m2, hm2, rfl, rfl⟩ := hrel
            by_cases hmk : m2 < k
            · obtain ⟨⟨x, t⟩, hx⟩ : ∃ d, L[m2]? = some d := ⟨_, List.getElem?_eq_getElem (by have := HKL.out; omega)⟩
              obtain ⟨b5, off5, rfl, kc⟩ := HCELL.out W4 (Mod.refl _ _) m2 _ hmk hx
              have hle : ¬ ot < t := by have := HLT.out m2 _ hmk hx; simp only at this; omega
              have HMEM := Lib.hid (List.mem_of_getElem? hx)
              have HWX := Lib.hid (HWL.out _ HMEM.out)
              simp only at kc HWX
              have j1 : (0 : Int) ≤ (m2 : Int) := by omega
              have j2 : (m2 : Int) < (k : Int) := by omega
              have hwm : IntKind.i64.wrap ((m2 : Int) + 1) = (m2 : Int) + 1 := IntWalk.i64_in _ (by omega)
              by_cases h0 : m2 = 0
              · subst h0
                clear hx
                simp at kc
                go_wp2_with (at_lookup; refine wpList_lhit rfl _ _ rfl rfl HM4.out x t HMEM.out rfl HWX.out ?_)
                go_roundw
                case rel => exact ⟨1, by omega, by go_num, by first | rfl | trivial⟩
                case measure => simp [intOf]; omega
              · obtain ⟨j, hj⟩ : ∃ j, j + 1 = m2 := ⟨m2 - 1, by omega⟩
                obtain ⟨⟨y, s⟩, hy⟩ : ∃ d, L[j]? = some d := ⟨_, List.getElem?_eq_getElem (by have := HKL.out; omega)⟩
                obtain ⟨b6, off6, he, kc2⟩ := HCELL.out W4 (Mod.refl _ _) j _ (by omega) hy
                cases he
                have hne := nd_two HND.out (show j < m2 by omega) hy hx
                simp only at kc2 hne
                have hyx : (y == x) = false := by simpa using hne
                have j3 : (0 : Int) ≤ (j : Int) := by omega
                have j4 : (j : Int) < (k : Int) := by omega
                have j5 : (0 : Int) < (m2 : Int) := by omega
                have j6 : 0 < m2 := by omega
                have j7 : j < k := by omega
                have hwj : IntKind.i64.wrap ((m2 : Int) - 1) = (j : Int) := by rw [IntWalk.i64_in _ (by omega)]; omega
                clear hx hy hne hj h0
                go_wp2_with (at_lookup; refine wpList_lhit rfl _ _ rfl rfl HM4.out x t HMEM.out rfl HWX.out ?_)
                go_roundw
                case rel => exact ⟨m2 + 1, by omega, by go_num, by first | rfl | trivial⟩
                case measure => simp [intOf]; omega
            · obtain rfl : k = m2 := by omega
              clear hmk hm2
              go_wp2
              go_loopw [14] (fun i wr => ∃ m2 : Nat, 1 ≤ m2 ∧ m2 ≤ k + 1 ∧ i = .int .i64 m2 ∧ Hid (Ext W4 wr)) (fun i _ => k + 1 - (intOf i).toNat)
              case atStart => exact ⟨1, Nat.le_refl _, by omega, rfl, Lib.hid (Ext.refl _)⟩
              case round =>
                obtain ⟨m2, hm1, hm2, rfl, HE⟩ := hrel
                have b2 := (B4.out.ext HE.out).cell 2
                simp at b2
                by_cases hmk : m2 < k
                · obtain ⟨⟨x, t⟩, hx⟩ : ∃ d, L[m2]? = some d := ⟨_, List.getElem?_eq_getElem (by have := HKL.out; omega)⟩
                  obtain ⟨b5, off5, rfl, kc⟩ := HCELL.out wr (Mod.of_ext HE.out) m2 _ hmk hx
                  obtain ⟨j, hj⟩ : ∃ j, j + 1 = m2 := ⟨m2 - 1, by omega⟩
                  obtain ⟨⟨y, s⟩, hy⟩ : ∃ d, L[j]? = some d := ⟨_, List.getElem?_eq_getElem (by have := HKL.out; omega)⟩
                  obtain ⟨b6, off6, he, kc2⟩ := HCELL.out wr (Mod.of_ext HE.out) j _ (by omega) hy
                  cases he
                  have hbf := srt_two HSRT.out (show j < m2 by omega) hy hx
                  rw [befK_iff] at hbf
                  have HMX := Lib.hid (List.mem_of_getElem? hx)
                  have HMY := Lib.hid (List.mem_of_getElem? hy)
                  have HWX := Lib.hid (HWL.out _ HMX.out)
                  have HWY := Lib.hid (HWL.out _ HMY.out)
                  simp only at kc kc2 hbf HWX HWY
                  have KX := Lib.hid kc
                  have KY := Lib.hid kc2
                  have j1 : (0 : Int) ≤ (m2 : Int) := by omega
                  have j2 : (m2 : Int) < (k : Int) := by omega
                  have j3 : (0 : Int) ≤ (j : Int) := by omega
                  have j4 : (j : Int) < (k : Int) := by omega
                  have j5 : m2 < k := by omega
                  have j6 : j < k := by omega
                  have hwj : IntKind.i64.wrap ((m2 : Int) - 1) = (j : Int) := by rw [IntWalk.i64_in _ (by omega)]; omega
                  have hwm : IntKind.i64.wrap ((m2 : Int) + 1) = (m2 : Int) + 1 := IntWalk.i64_in _ (by omega)
                  have HM5 := Lib.hid (HM4.out.ext HE.out)
                  clear hx hy hj kc kc2
                  go_upto_region 31 with fail
                  refine wp_region_held_drew (S := fun w' => Ext wr w') (by kernel_rfl) (by repeat (first | with_reducible exact Ext.refl _ | refine Ext.drewN ?_ _ | refine Ext.drew ?_ | refine Ext.alloc ?_ _ | assumption | (refine Below.trans ?_ (by assumption)) | (refine Ext.trans ?_ (by assumption)) | (refine Below.trans ?_ (Below.mono (by assumption) (by omega))))) (fun hHeld => ?_)
                  (refine wpAnyH_take (i := 0) (v := ?_) rfl (by kernel_rfl) (by kernel_rfl) (by kernel_rfl) (fun _ _ _ h => h) (Or.inl ⟨by rfl, ?_⟩) (by assumption) ?_; rotate_left; (focus (intro w' hSw; go_simp; try with_reducible rfl)); (try simp only [List.getElem_toArray]); (try simp only [List.getElem_cons_succ]); (try simp only [List.getElem_cons_zero]); (try simp only [Act.put]); (try simp only [List.setIfInBounds_toArray]); (try simp only [List.set_cons_succ]); (try simp only [List.set_cons_zero]))
                  (refine wpAnyH_take (i := 1) (v := ?_) rfl (by kernel_rfl) (by kernel_rfl) (by kernel_rfl) (fun _ _ _ h => h) (Or.inl ⟨by rfl, ?_⟩) (by assumption) ?_; rotate_left; (focus (intro w' hSw; go_simp; try with_reducible rfl)); (try simp only [List.getElem_toArray]); (try simp only [List.getElem_cons_succ]); (try simp only [List.getElem_cons_zero]); (try simp only [Act.put]); (try simp only [List.setIfInBounds_toArray]); (try simp only [List.set_cons_succ]); (try simp only [List.set_cons_zero]))
                  (refine wpAnyH_take (i := 2) (v := ?_) rfl (by kernel_rfl) (by kernel_rfl) (by kernel_rfl) (fun _ _ _ h => h) (Or.inl ⟨by rfl, ?_⟩) (by assumption) ?_; rotate_left; (focus (intro w' hSw; go_simp; try with_reducible rfl)); (try simp only [List.getElem_toArray]); (try simp only [List.getElem_cons_succ]); (try simp only [List.getElem_cons_zero]); (try simp only [Act.put]); (try simp only [List.setIfInBounds_toArray]); (try simp only [List.set_cons_succ]); (try simp only [List.set_cons_zero]))
                  (refine wpAnyH_take (i := 3) (v := ?_) rfl (by kernel_rfl) (by kernel_rfl) (by kernel_rfl) (fun _ _ _ h => h) (Or.inl ⟨by rfl, ?_⟩) (by assumption) ?_; rotate_left; (focus (intro w' hSw; go_simp; try with_reducible rfl)); (try simp only [List.getElem_toArray]); (try simp only [List.getElem_cons_succ]); (try simp only [List.getElem_cons_zero]); (try simp only [Act.put]); (try simp only [List.setIfInBounds_toArray]); (try simp only [List.set_cons_succ]); (try simp only [List.set_cons_zero]))
                  (refine wpAnyH_take (i := 4) (v := ?_) rfl (by kernel_rfl) (by kernel_rfl) (by kernel_rfl) (fun _ _ _ h => h) (Or.inl ⟨by rfl, ?_⟩) (by assumption) ?_; rotate_left; (focus (intro w' hSw; go_simp; try with_reducible rfl)); (try simp only [List.getElem_toArray]); (try simp only [List.getElem_cons_succ]); (try simp only [List.getElem_cons_zero]); (try simp only [Act.put]); (try simp only [List.setIfInBounds_toArray]); (try simp only [List.set_cons_succ]); (try simp only [List.set_cons_zero]))
                  (refine wpAnyH_take (i := 5) (v := ?_) rfl (by kernel_rfl) (by kernel_rfl) (by kernel_rfl) (fun _ _ _ h => h) (Or.inl ⟨by rfl, ?_⟩) (by assumption) ?_; rotate_left; (focus (intro w' hSw; have kc := cell_ext hSw KY.out; go_simp; try with_reducible rfl)); (try simp only [List.getElem_toArray]); (try simp only [List.getElem_cons_succ]); (try simp only [List.getElem_cons_zero]); (try simp only [Act.put]); (try simp only [List.setIfInBounds_toArray]); (try simp only [List.set_cons_succ]); (try simp only [List.set_cons_zero]))
                  (refine wpAnyH_take (i := 6) (v := ?_) rfl (by kernel_rfl) (by kernel_rfl) (by kernel_rfl) (fun _ _ _ h => h) (Or.inl ⟨by rfl, ?_⟩) (by assumption) ?_; rotate_left; (focus (intro w' hSw; have kc := (HM5.out.ext hSw).look HMY.out HWY.out; go_simp; try with_reducible rfl)); (try simp only [List.getElem_toArray]); (try simp only [List.getElem_cons_succ]); (try simp only [List.getElem_cons_zero]); (try simp only [Act.put]); (try simp only [List.setIfInBounds_toArray]); (try simp only [List.set_cons_succ]); (try simp only [List.set_cons_zero]))
                  (refine wpAnyH_take (i := 7) (v := ?_) rfl (by kernel_rfl) (by kernel_rfl) (by kernel_rfl) (fun _ _ _ h => h) (Or.inl ⟨by rfl, ?_⟩) (by assumption) ?_; rotate_left; (focus (intro w' hSw; go_simp; try with_reducible rfl)); (try simp only [List.getElem_toArray]); (try simp only [List.getElem_cons_succ]); (try simp only [List.getElem_cons_zero]); (try simp only [Act.put]); (try simp only [List.setIfInBounds_toArray]); (try simp only [List.set_cons_succ]); (try simp only [List.set_cons_zero]))
                  (refine wpAnyH_take (i := 8) (v := ?_) rfl (by kernel_rfl) (by kernel_rfl) (by kernel_rfl) (fun _ _ _ h => h) (Or.inl ⟨by rfl, ?_⟩) (by assumption) ?_; rotate_left; (focus (intro w' hSw; go_simp; try with_reducible rfl)); (try simp only [List.getElem_toArray]); (try simp only [List.getElem_cons_succ]); (try simp only [List.getElem_cons_zero]); (try simp only [Act.put]); (try simp only [List.setIfInBounds_toArray]); (try simp only [List.set_cons_succ]); (try simp only [List.set_cons_zero]))
                  (refine wpAnyH_take (i := 9) (v := ?_) rfl (by kernel_rfl) (by kernel_rfl) (by kernel_rfl) (fun _ _ _ h => h) (Or.inl ⟨by rfl, ?_⟩) (by assumption) ?_; rotate_left; (focus (intro w' hSw; go_simp; try with_reducible rfl)); (try simp only [List.getElem_toArray]); (try simp only [List.getElem_cons_succ]); (try simp only [List.getElem_cons_zero]); (try simp only [Act.put]); (try simp only [List.setIfInBounds_toArray]); (try simp only [List.set_cons_succ]); (try simp only [List.set_cons_zero]))
                  (refine wpAnyH_take (i := 10) (v := ?_) rfl (by kernel_rfl) (by kernel_rfl) (by kernel_rfl) (fun _ _ _ h => h) (Or.inl ⟨by rfl, ?_⟩) (by assumption) ?_; rotate_left; (focus (intro w' hSw; go_simp; try with_reducible rfl)); (try simp only [List.getElem_toArray]); (try simp only [List.getElem_cons_succ]); (try simp only [List.getElem_cons_zero]); (try simp only [Act.put]); (try simp only [List.setIfInBounds_toArray]); (try simp only [List.set_cons_succ]); (try simp only [List.set_cons_zero]))
                  (refine wpAnyH_take (i := 11) (v := ?_) rfl (by kernel_rfl) (by kernel_rfl) (by kernel_rfl) (fun _ _ _ h => h) (Or.inl ⟨by rfl, ?_⟩) (by assumption) ?_; rotate_left; (focus (intro w' hSw; have kc := cell_ext hSw KX.out; go_simp; try with_reducible rfl)); (try simp only [List.getElem_toArray]); (try simp only [List.getElem_cons_succ]); (try simp only [List.getElem_cons_zero]); (try simp only [Act.put]); (try simp only [List.setIfInBounds_toArray]); (try simp only [List.set_cons_succ]); (try simp only [List.set_cons_zero]))
                  (refine wpAnyH_take (i := 12) (v := ?_) rfl (by kernel_rfl) (by kernel_rfl) (by kernel_rfl) (fun _ _ _ h => h) (Or.inl ⟨by rfl, ?_⟩) (by assumption) ?_; rotate_left; (focus (intro w' hSw; have kc := (HM5.out.ext hSw).look HMX.out HWX.out; go_simp; try with_reducible rfl)); (try simp only [List.getElem_toArray]); (try simp only [List.getElem_cons_succ]); (try simp only [List.getElem_cons_zero]); (try simp only [Act.put]); (try simp only [List.setIfInBounds_toArray]); (try simp only [List.set_cons_succ]); (try simp only [List.set_cons_zero]))
                  (refine wpAnyH_take (i := 13) (v := ?_) rfl (by kernel_rfl) (by kernel_rfl) (by kernel_rfl) (fun _ _ _ h => h) (Or.inl ⟨by rfl, ?_⟩) (by assumption) ?_; rotate_left; (focus (intro w' hSw; go_simp; try with_reducible rfl)); (try simp only [List.getElem_toArray]); (try simp only [List.getElem_cons_succ]); (try simp only [List.getElem_cons_zero]); (try simp only [Act.put]); (try simp only [List.setIfInBounds_toArray]); (try simp only [List.set_cons_succ]); (try simp only [List.set_cons_zero]))
                  (refine wpAnyH_take (i := 14) (v := ?_) rfl (by kernel_rfl) (by kernel_rfl) (by kernel_rfl) (fun _ _ _ h => h) (Or.inl ⟨by rfl, ?_⟩) (by assumption) ?_; rotate_left; (focus (intro w' hSw; go_simp; try with_reducible rfl)); (try simp only [List.getElem_toArray]); (try simp only [List.getElem_cons_succ]); (try simp only [List.getElem_cons_zero]); (try simp only [Act.put]); (try simp only [List.setIfInBounds_toArray]); (try simp only [List.set_cons_succ]); (try simp only [List.set_cons_zero]))
                  refine wpAnyH_done (by kernel_rfl) ?_ _
                  have KX := Lib.hid (cell_ext hHeld KX.out)
                  have KY := Lib.hid (cell_ext hHeld KY.out)
                  have HE2 := Lib.hid (HE.out.trans hHeld)
                  clear hHeld
                  generalize wr.drew = w32 at *
                  go_upto_region 32 with fail
                  by_cases hlt : s < t
                  · have g1 : ¬ t < s := by omega
                    have g2 : (s == t) = false := by rw [beq_eq_false_iff_ne]; omega
                    refine wp_region_held_drew (S := fun w' => Ext w32 w') (by kernel_rfl) (by repeat (first | with_reducible exact Ext.refl _ | refine Ext.drewN ?_ _ | refine Ext.drew ?_ | refine Ext.alloc ?_ _ | assumption | (refine Below.trans ?_ (by assumption)) | (refine Ext.trans ?_ (by assumption)) | (refine Below.trans ?_ (Below.mono (by assumption) (by omega))))) (fun hHeld => ?_)
                    (refine wpAnyH_take (i := 0) (v := ?_) rfl (by kernel_rfl) (by kernel_rfl) (by kernel_rfl) (fun _ _ _ h => h) (Or.inl ⟨by rfl, ?_⟩) (by assumption) ?_; rotate_left; (focus (intro w' hSw; go_simp; try with_reducible rfl)); (try simp only [List.getElem_toArray]); (try simp only [List.getElem_cons_succ]); (try simp only [List.getElem_cons_zero]); (try simp only [Act.put]); (try simp only [List.setIfInBounds_toArray]); (try simp only [List.set_cons_succ]); (try simp only [List.set_cons_zero]))
                    (refine wpAnyH_take (i := 1) (v := ?_) rfl (by kernel_rfl) (by kernel_rfl) (by kernel_rfl) (fun _ _ _ h => h) (Or.inl ⟨by rfl, ?_⟩) (by assumption) ?_; rotate_left; (focus (intro w' hSw; go_simp; try with_reducible rfl)); (try simp only [List.getElem_toArray]); (try simp only [List.getElem_cons_succ]); (try simp only [List.getElem_cons_zero]); (try simp only [Act.put]); (try simp only [List.setIfInBounds_toArray]); (try simp only [List.set_cons_succ]); (try simp only [List.set_cons_zero]))
                    (refine wpAnyH_take (i := 2) (v := ?_) rfl (by kernel_rfl) (by kernel_rfl) (by kernel_rfl) (fun _ _ _ h => h) (Or.inl ⟨by rfl, ?_⟩) (by assumption) ?_; rotate_left; (focus (intro w' hSw; go_simp; try with_reducible rfl)); (try simp only [List.getElem_toArray]); (try simp only [List.getElem_cons_succ]); (try simp only [List.getElem_cons_zero]); (try simp only [Act.put]); (try simp only [List.setIfInBounds_toArray]); (try simp only [List.set_cons_succ]); (try simp only [List.set_cons_zero]))
                    (refine wpAnyH_take (i := 3) (v := ?_) rfl (by kernel_rfl) (by kernel_rfl) (by kernel_rfl) (fun _ _ _ h => h) (Or.inl ⟨by rfl, ?_⟩) (by assumption) ?_; rotate_left; (focus (intro w' hSw; go_simp; try with_reducible rfl)); (try simp only [List.getElem_toArray]); (try simp only [List.getElem_cons_succ]); (try simp only [List.getElem_cons_zero]); (try simp only [Act.put]); (try simp only [List.setIfInBounds_toArray]); (try simp only [List.set_cons_succ]); (try simp only [List.set_cons_zero]))
                    (refine wpAnyH_take (i := 4) (v := ?_) rfl (by kernel_rfl) (by kernel_rfl) (by kernel_rfl) (fun _ _ _ h => h) (Or.inl ⟨by rfl, ?_⟩) (by assumption) ?_; rotate_left; (focus (intro w' hSw; go_simp; try with_reducible rfl)); (try simp only [List.getElem_toArray]); (try simp only [List.getElem_cons_succ]); (try simp only [List.getElem_cons_zero]); (try simp only [Act.put]); (try simp only [List.setIfInBounds_toArray]); (try simp only [List.set_cons_succ]); (try simp only [List.set_cons_zero]))
                    (refine wpAnyH_take (i := 5) (v := ?_) rfl (by kernel_rfl) (by kernel_rfl) (by kernel_rfl) (fun _ _ _ h => h) (Or.inl ⟨by rfl, ?_⟩) (by assumption) ?_; rotate_left; (focus (intro w' hSw; go_simp; try with_reducible rfl)); (try simp only [List.getElem_toArray]); (try simp only [List.getElem_cons_succ]); (try simp only [List.getElem_cons_zero]); (try simp only [Act.put]); (try simp only [List.setIfInBounds_toArray]); (try simp only [List.set_cons_succ]); (try simp only [List.set_cons_zero]))
                    (refine wpAnyH_take (i := 6) (v := ?_) rfl (by kernel_rfl) (by kernel_rfl) (by kernel_rfl) (fun _ _ _ h => h) (Or.inl ⟨by rfl, ?_⟩) (by assumption) ?_; rotate_left; (focus (intro w' hSw; go_simp; try with_reducible rfl)); (try simp only [List.getElem_toArray]); (try simp only [List.getElem_cons_succ]); (try simp only [List.getElem_cons_zero]); (try simp only [Act.put]); (try simp only [List.setIfInBounds_toArray]); (try simp only [List.set_cons_succ]); (try simp only [List.set_cons_zero]))
                    (refine wpAnyH_take (i := 7) (v := ?_) rfl (by kernel_rfl) (by kernel_rfl) (by kernel_rfl) (fun _ _ _ h => h) (Or.inl ⟨by rfl, ?_⟩) (by assumption) ?_; rotate_left; (focus (intro w' hSw; go_simp; try with_reducible rfl)); (try simp only [List.getElem_toArray]); (try simp only [List.getElem_cons_succ]); (try simp only [List.getElem_cons_zero]); (try simp only [Act.put]); (try simp only [List.setIfInBounds_toArray]); (try simp only [List.set_cons_succ]); (try simp only [List.set_cons_zero]))
                    (refine wpAnyH_take (i := 8) (v := undef) rfl (by kernel_rfl) (by kernel_rfl) (by kernel_rfl) (fun _ _ _ h => h) (Or.inr ⟨by rfl, rfl⟩) (by assumption) ?_; (try simp only [List.getElem_toArray]); (try simp only [List.getElem_cons_succ]); (try simp only [List.getElem_cons_zero]); (try simp only [Act.put]); (try simp only [List.setIfInBounds_toArray]); (try simp only [List.set_cons_succ]); (try simp only [List.set_cons_zero]))
                    (refine wpAnyH_take (i := 9) (v := undef) rfl (by kernel_rfl) (by kernel_rfl) (by kernel_rfl) (fun _ _ _ h => h) (Or.inr ⟨by rfl, rfl⟩) (by assumption) ?_; (try simp only [List.getElem_toArray]); (try simp only [List.getElem_cons_succ]); (try simp only [List.getElem_cons_zero]); (try simp only [Act.put]); (try simp only [List.setIfInBounds_toArray]); (try simp only [List.set_cons_succ]); (try simp only [List.set_cons_zero]))
                    (refine wpAnyH_take (i := 10) (v := undef) rfl (by kernel_rfl) (by kernel_rfl) (by kernel_rfl) (fun _ _ _ h => h) (Or.inr ⟨by rfl, rfl⟩) (by assumption) ?_; (try simp only [List.getElem_toArray]); (try simp only [List.getElem_cons_succ]); (try simp only [List.getElem_cons_zero]); (try simp only [Act.put]); (try simp only [List.setIfInBounds_toArray]); (try simp only [List.set_cons_succ]); (try simp only [List.set_cons_zero]))
                    (refine wpAnyH_take (i := 11) (v := undef) rfl (by kernel_rfl) (by kernel_rfl) (by kernel_rfl) (fun _ _ _ h => h) (Or.inr ⟨by rfl, rfl⟩) (by assumption) ?_; (try simp only [List.getElem_toArray]); (try simp only [List.getElem_cons_succ]); (try simp only [List.getElem_cons_zero]); (try simp only [Act.put]); (try simp only [List.setIfInBounds_toArray]); (try simp only [List.set_cons_succ]); (try simp only [List.set_cons_zero]))
                    (refine wpAnyH_take (i := 12) (v := undef) rfl (by kernel_rfl) (by kernel_rfl) (by kernel_rfl) (fun _ _ _ h => h) (Or.inr ⟨by rfl, rfl⟩) (by assumption) ?_; (try simp only [List.getElem_toArray]); (try simp only [List.getElem_cons_succ]); (try simp only [List.getElem_cons_zero]); (try simp only [Act.put]); (try simp only [List.setIfInBounds_toArray]); (try simp only [List.set_cons_succ]); (try simp only [List.set_cons_zero]))
                    (refine wpAnyH_take (i := 13) (v := undef) rfl (by kernel_rfl) (by kernel_rfl) (by kernel_rfl) (fun _ _ _ h => h) (Or.inr ⟨by rfl, rfl⟩) (by assumption) ?_; (try simp only [List.getElem_toArray]); (try simp only [List.getElem_cons_succ]); (try simp only [List.getElem_cons_zero]); (try simp only [Act.put]); (try simp only [List.setIfInBounds_toArray]); (try simp only [List.set_cons_succ]); (try simp only [List.set_cons_zero]))
                    (refine wpAnyH_take (i := 14) (v := undef) rfl (by kernel_rfl) (by kernel_rfl) (by kernel_rfl) (fun _ _ _ h => h) (Or.inr ⟨by rfl, rfl⟩) (by assumption) ?_; (try simp only [List.getElem_toArray]); (try simp only [List.getElem_cons_succ]); (try simp only [List.getElem_cons_zero]); (try simp only [Act.put]); (try simp only [List.setIfInBounds_toArray]); (try simp only [List.set_cons_succ]); (try simp only [List.set_cons_zero]))
                    (refine wpAnyH_take (i := 15) (v := undef) rfl (by kernel_rfl) (by kernel_rfl) (by kernel_rfl) (fun _ _ _ h => h) (Or.inr ⟨by rfl, rfl⟩) (by assumption) ?_; (try simp only [List.getElem_toArray]); (try simp only [List.getElem_cons_succ]); (try simp only [List.getElem_cons_zero]); (try simp only [Act.put]); (try simp only [List.setIfInBounds_toArray]); (try simp only [List.set_cons_succ]); (try simp only [List.set_cons_zero]))
                    (refine wpAnyH_take (i := 16) (v := undef) rfl (by kernel_rfl) (by kernel_rfl) (by kernel_rfl) (fun _ _ _ h => h) (Or.inr ⟨by rfl, rfl⟩) (by assumption) ?_; (try simp only [List.getElem_toArray]); (try simp only [List.getElem_cons_succ]); (try simp only [List.getElem_cons_zero]); (try simp only [Act.put]); (try simp only [List.setIfInBounds_toArray]); (try simp only [List.set_cons_succ]); (try simp only [List.set_cons_zero]))
                    (refine wpAnyH_take (i := 17) (v := undef) rfl (by kernel_rfl) (by kernel_rfl) (by kernel_rfl) (fun _ _ _ h => h) (Or.inr ⟨by rfl, rfl⟩) (by assumption) ?_; (try simp only [List.getElem_toArray]); (try simp only [List.getElem_cons_succ]); (try simp only [List.getElem_cons_zero]); (try simp only [Act.put]); (try simp only [List.setIfInBounds_toArray]); (try simp only [List.set_cons_succ]); (try simp only [List.set_cons_zero]))
                    (refine wpAnyH_take (i := 18) (v := ?_) rfl (by kernel_rfl) (by kernel_rfl) (by kernel_rfl) (fun _ _ _ h => h) (Or.inl ⟨by rfl, ?_⟩) (by assumption) ?_; rotate_left; (focus (intro w' hSw; go_simp; try with_reducible rfl)); (try simp only [List.getElem_toArray]); (try simp only [List.getElem_cons_succ]); (try simp only [List.getElem_cons_zero]); (try simp only [Act.put]); (try simp only [List.setIfInBounds_toArray]); (try simp only [List.set_cons_succ]); (try simp only [List.set_cons_zero]))
                    (refine wpAnyH_take (i := 19) (v := ?_) rfl (by kernel_rfl) (by kernel_rfl) (by kernel_rfl) (fun _ _ _ h => h) (Or.inl ⟨by rfl, ?_⟩) (by assumption) ?_; rotate_left; (focus (intro w' hSw; go_simp; try with_reducible rfl)); (try simp only [List.getElem_toArray]); (try simp only [List.getElem_cons_succ]); (try simp only [List.getElem_cons_zero]); (try simp only [Act.put]); (try simp only [List.setIfInBounds_toArray]); (try simp only [List.set_cons_succ]); (try simp only [List.set_cons_zero]))
                    refine wpAnyH_done (by kernel_rfl) ?_ _
                    go_wp2_with fail
                    go_roundw
                    case rel => exact ⟨m2 + 1, by omega, by omega, by go_num, Lib.hid (HE2.out.trans hHeld)⟩
                    case measure => simp [intOf]; omega
                  · obtain ⟨hst, hyx⟩ := hbf.resolve_left hlt
                    subst hst
                    have g1 : ¬ x ≤ y := by omega
                    refine wp_region_held_drew (S := fun w' => Ext w32 w') (by kernel_rfl) (by repeat (first | with_reducible exact Ext.refl _ | refine Ext.drewN ?_ _ | refine Ext.drew ?_ | refine Ext.alloc ?_ _ | assumption | (refine Below.trans ?_ (by assumption)) | (refine Ext.trans ?_ (by assumption)) | (refine Below.trans ?_ (Below.mono (by assumption) (by omega))))) (fun hHeld => ?_)
                    (refine wpAnyH_take (i := 0) (v := ?_) rfl (by kernel_rfl) (by kernel_rfl) (by kernel_rfl) (fun _ _ _ h => h) (Or.inl ⟨by rfl, ?_⟩) (by assumption) ?_; rotate_left; (focus (intro w' hSw; go_simp; try with_reducible rfl)); (try simp only [List.getElem_toArray]); (try simp only [List.getElem_cons_succ]); (try simp only [List.getElem_cons_zero]); (try simp only [Act.put]); (try simp only [List.setIfInBounds_toArray]); (try simp only [List.set_cons_succ]); (try simp only [List.set_cons_zero]))
                    (refine wpAnyH_take (i := 1) (v := ?_) rfl (by kernel_rfl) (by kernel_rfl) (by kernel_rfl) (fun _ _ _ h => h) (Or.inl ⟨by rfl, ?_⟩) (by assumption) ?_; rotate_left; (focus (intro w' hSw; go_simp; try with_reducible rfl)); (try simp only [List.getElem_toArray]); (try simp only [List.getElem_cons_succ]); (try simp only [List.getElem_cons_zero]); (try simp only [Act.put]); (try simp only [List.setIfInBounds_toArray]); (try simp only [List.set_cons_succ]); (try simp only [List.set_cons_zero]))
                    (refine wpAnyH_take (i := 2) (v := ?_) rfl (by kernel_rfl) (by kernel_rfl) (by kernel_rfl) (fun _ _ _ h => h) (Or.inl ⟨by rfl, ?_⟩) (by assumption) ?_; rotate_left; (focus (intro w' hSw; go_simp; try with_reducible rfl)); (try simp only [List.getElem_toArray]); (try simp only [List.getElem_cons_succ]); (try simp only [List.getElem_cons_zero]); (try simp only [Act.put]); (try simp only [List.setIfInBounds_toArray]); (try simp only [List.set_cons_succ]); (try simp only [List.set_cons_zero]))
                    (refine wpAnyH_take (i := 3) (v := ?_) rfl (by kernel_rfl) (by kernel_rfl) (by kernel_rfl) (fun _ _ _ h => h) (Or.inl ⟨by rfl, ?_⟩) (by assumption) ?_; rotate_left; (focus (intro w' hSw; go_simp; try with_reducible rfl)); (try simp only [List.getElem_toArray]); (try simp only [List.getElem_cons_succ]); (try simp only [List.getElem_cons_zero]); (try simp only [Act.put]); (try simp only [List.setIfInBounds_toArray]); (try simp only [List.set_cons_succ]); (try simp only [List.set_cons_zero]))
                    (refine wpAnyH_take (i := 4) (v := ?_) rfl (by kernel_rfl) (by kernel_rfl) (by kernel_rfl) (fun _ _ _ h => h) (Or.inl ⟨by rfl, ?_⟩) (by assumption) ?_; rotate_left; (focus (intro w' hSw; go_simp; try with_reducible rfl)); (try simp only [List.getElem_toArray]); (try simp only [List.getElem_cons_succ]); (try simp only [List.getElem_cons_zero]); (try simp only [Act.put]); (try simp only [List.setIfInBounds_toArray]); (try simp only [List.set_cons_succ]); (try simp only [List.set_cons_zero]))
                    (refine wpAnyH_take (i := 5) (v := ?_) rfl (by kernel_rfl) (by kernel_rfl) (by kernel_rfl) (fun _ _ _ h => h) (Or.inl ⟨by rfl, ?_⟩) (by assumption) ?_; rotate_left; (focus (intro w' hSw; go_simp; try with_reducible rfl)); (try simp only [List.getElem_toArray]); (try simp only [List.getElem_cons_succ]); (try simp only [List.getElem_cons_zero]); (try simp only [Act.put]); (try simp only [List.setIfInBounds_toArray]); (try simp only [List.set_cons_succ]); (try simp only [List.set_cons_zero]))
                    (refine wpAnyH_take (i := 6) (v := ?_) rfl (by kernel_rfl) (by kernel_rfl) (by kernel_rfl) (fun _ _ _ h => h) (Or.inl ⟨by rfl, ?_⟩) (by assumption) ?_; rotate_left; (focus (intro w' hSw; go_simp; try with_reducible rfl)); (try simp only [List.getElem_toArray]); (try simp only [List.getElem_cons_succ]); (try simp only [List.getElem_cons_zero]); (try simp only [Act.put]); (try simp only [List.setIfInBounds_toArray]); (try simp only [List.set_cons_succ]); (try simp only [List.set_cons_zero]))
                    (refine wpAnyH_take (i := 7) (v := ?_) rfl (by kernel_rfl) (by kernel_rfl) (by kernel_rfl) (fun _ _ _ h => h) (Or.inl ⟨by rfl, ?_⟩) (by assumption) ?_; rotate_left; (focus (intro w' hSw; go_simp; try with_reducible rfl)); (try simp only [List.getElem_toArray]); (try simp only [List.getElem_cons_succ]); (try simp only [List.getElem_cons_zero]); (try simp only [Act.put]); (try simp only [List.setIfInBounds_toArray]); (try simp only [List.set_cons_succ]); (try simp only [List.set_cons_zero]))
                    (refine wpAnyH_take (i := 8) (v := ?_) rfl (by kernel_rfl) (by kernel_rfl) (by kernel_rfl) (fun _ _ _ h => h) (Or.inl ⟨by rfl, ?_⟩) (by assumption) ?_; rotate_left; (focus (intro w' hSw; go_simp; try with_reducible rfl)); (try simp only [List.getElem_toArray]); (try simp only [List.getElem_cons_succ]); (try simp only [List.getElem_cons_zero]); (try simp only [Act.put]); (try simp only [List.setIfInBounds_toArray]); (try simp only [List.set_cons_succ]); (try simp only [List.set_cons_zero]))
                    (refine wpAnyH_take (i := 9) (v := ?_) rfl (by kernel_rfl) (by kernel_rfl) (by kernel_rfl) (fun _ _ _ h => h) (Or.inl ⟨by rfl, ?_⟩) (by assumption) ?_; rotate_left; (focus (intro w' hSw; go_simp; try with_reducible rfl)); (try simp only [List.getElem_toArray]); (try simp only [List.getElem_cons_succ]); (try simp only [List.getElem_cons_zero]); (try simp only [Act.put]); (try simp only [List.setIfInBounds_toArray]); (try simp only [List.set_cons_succ]); (try simp only [List.set_cons_zero]))
                    (refine wpAnyH_take (i := 10) (v := ?_) rfl (by kernel_rfl) (by kernel_rfl) (by kernel_rfl) (fun _ _ _ h => h) (Or.inl ⟨by rfl, ?_⟩) (by assumption) ?_; rotate_left; (focus (intro w' hSw; go_simp; try with_reducible rfl)); (try simp only [List.getElem_toArray]); (try simp only [List.getElem_cons_succ]); (try simp only [List.getElem_cons_zero]); (try simp only [Act.put]); (try simp only [List.setIfInBounds_toArray]); (try simp only [List.set_cons_succ]); (try simp only [List.set_cons_zero]))
                    (refine wpAnyH_take (i := 11) (v := ?_) rfl (by kernel_rfl) (by kernel_rfl) (by kernel_rfl) (fun _ _ _ h => h) (Or.inl ⟨by rfl, ?_⟩) (by assumption) ?_; rotate_left; (focus (intro w' hSw; go_simp; try with_reducible rfl)); (try simp only [List.getElem_toArray]); (try simp only [List.getElem_cons_succ]); (try simp only [List.getElem_cons_zero]); (try simp only [Act.put]); (try simp only [List.setIfInBounds_toArray]); (try simp only [List.set_cons_succ]); (try simp only [List.set_cons_zero]))
                    (refine wpAnyH_take (i := 12) (v := ?_) rfl (by kernel_rfl) (by kernel_rfl) (by kernel_rfl) (fun _ _ _ h => h) (Or.inl ⟨by rfl, ?_⟩) (by assumption) ?_; rotate_left; (focus (intro w' hSw; have kc := cell_ext hSw KY.out; go_simp; try with_reducible rfl)); (try simp only [List.getElem_toArray]); (try simp only [List.getElem_cons_succ]); (try simp only [List.getElem_cons_zero]); (try simp only [Act.put]); (try simp only [List.setIfInBounds_toArray]); (try simp only [List.set_cons_succ]); (try simp only [List.set_cons_zero]))
                    (refine wpAnyH_take (i := 13) (v := ?_) rfl (by kernel_rfl) (by kernel_rfl) (by kernel_rfl) (fun _ _ _ h => h) (Or.inl ⟨by rfl, ?_⟩) (by assumption) ?_; rotate_left; (focus (intro w' hSw; go_simp; try with_reducible rfl)); (try simp only [List.getElem_toArray]); (try simp only [List.getElem_cons_succ]); (try simp only [List.getElem_cons_zero]); (try simp only [Act.put]); (try simp only [List.setIfInBounds_toArray]); (try simp only [List.set_cons_succ]); (try simp only [List.set_cons_zero]))
                    (refine wpAnyH_take (i := 14) (v := ?_) rfl (by kernel_rfl) (by kernel_rfl) (by kernel_rfl) (fun _ _ _ h => h) (Or.inl ⟨by rfl, ?_⟩) (by assumption) ?_; rotate_left; (focus (intro w' hSw; go_simp; try with_reducible rfl)); (try simp only [List.getElem_toArray]); (try simp only [List.getElem_cons_succ]); (try simp only [List.getElem_cons_zero]); (try simp only [Act.put]); (try simp only [List.setIfInBounds_toArray]); (try simp only [List.set_cons_succ]); (try simp only [List.set_cons_zero]))
                    (refine wpAnyH_take (i := 15) (v := ?_) rfl (by kernel_rfl) (by kernel_rfl) (by kernel_rfl) (fun _ _ _ h => h) (Or.inl ⟨by rfl, ?_⟩) (by assumption) ?_; rotate_left; (focus (intro w' hSw; go_simp; try with_reducible rfl)); (try simp only [List.getElem_toArray]); (try simp only [List.getElem_cons_succ]); (try simp only [List.getElem_cons_zero]); (try simp only [Act.put]); (try simp only [List.setIfInBounds_toArray]); (try simp only [List.set_cons_succ]); (try simp only [List.set_cons_zero]))
                    (refine wpAnyH_take (i := 16) (v := ?_) rfl (by kernel_rfl) (by kernel_rfl) (by kernel_rfl) (fun _ _ _ h => h) (Or.inl ⟨by rfl, ?_⟩) (by assumption) ?_; rotate_left; (focus (intro w' hSw; have kc := cell_ext hSw KX.out; go_simp; try with_reducible rfl)); (try simp only [List.getElem_toArray]); (try simp only [List.getElem_cons_succ]); (try simp only [List.getElem_cons_zero]); (try simp only [Act.put]); (try simp only [List.setIfInBounds_toArray]); (try simp only [List.set_cons_succ]); (try simp only [List.set_cons_zero]))
                    (refine wpAnyH_take (i := 17) (v := ?_) rfl (by kernel_rfl) (by kernel_rfl) (by kernel_rfl) (fun _ _ _ h => h) (Or.inl ⟨by rfl, ?_⟩) (by assumption) ?_; rotate_left; (focus (intro w' hSw; go_simp; try with_reducible rfl)); (try simp only [List.getElem_toArray]); (try simp only [List.getElem_cons_succ]); (try simp only [List.getElem_cons_zero]); (try simp only [Act.put]); (try simp only [List.setIfInBounds_toArray]); (try simp only [List.set_cons_succ]); (try simp only [List.set_cons_zero]))
                    (refine wpAnyH_take (i := 18) (v := ?_) rfl (by kernel_rfl) (by kernel_rfl) (by kernel_rfl) (fun _ _ _ h => h) (Or.inl ⟨by rfl, ?_⟩) (by assumption) ?_; rotate_left; (focus (intro w' hSw; go_simp; try with_reducible rfl)); (try simp only [List.getElem_toArray]); (try simp only [List.getElem_cons_succ]); (try simp only [List.getElem_cons_zero]); (try simp only [Act.put]); (try simp only [List.setIfInBounds_toArray]); (try simp only [List.set_cons_succ]); (try simp only [List.set_cons_zero]))
                    (refine wpAnyH_take (i := 19) (v := ?_) rfl (by kernel_rfl) (by kernel_rfl) (by kernel_rfl) (fun _ _ _ h => h) (Or.inl ⟨by rfl, ?_⟩) (by assumption) ?_; rotate_left; (focus (intro w' hSw; go_simp; try with_reducible rfl)); (try simp only [List.getElem_toArray]); (try simp only [List.getElem_cons_succ]); (try simp only [List.getElem_cons_zero]); (try simp only [Act.put]); (try simp only [List.setIfInBounds_toArray]); (try simp only [List.set_cons_succ]); (try simp only [List.set_cons_zero]))
                    refine wpAnyH_done (by kernel_rfl) ?_ _
                    go_wp2_with fail
                    go_roundw
                    case rel => exact ⟨m2 + 1, by omega, by omega, by go_num, Lib.hid (HE2.out.trans hHeld)⟩
                    case measure => simp [intOf]; omega
                · obtain hmk2 : k ≤ m2 := by omega
                  have j7 : ¬ (m2 : Int) < (k : Int) := by omega
                  have j8 : ¬ m2 < k := by omega
                  go_wp2
                  obtain ⟨W5, hW5⟩ : ∃ W5, W5 = wr := ⟨_, rfl⟩
                  subst hW5
                  have HM5 := Lib.hid (HM4.out.ext HE.out)
                  clear hmk hmk2 hm1 hm2 j7 j8 b2
                  go_loopw [150] (fun i wr => ∃ m3 : Nat, m3 ≤ k ∧ i = .int .i64 m3 ∧ Hid (MapL M wr (L.drop m3)) ∧ Hid (Mod (fun q => q = M) W5 wr)) (fun i _ => k - (intOf i).toNat)
                  case atStart => exact ⟨0, Nat.zero_le _, rfl, Lib.hid (by rw [List.drop_zero]; exact HM5.out), Lib.hid (Mod.refl _ _)⟩
                  case round =>
                    obtain ⟨m3, hm3, rfl, HMr, HMO⟩ := hrel
                    by_cases hmk : m3 < k
                    · obtain ⟨⟨x, t⟩, hx⟩ : ∃ d, L[m3]? = some d := ⟨_, List.getElem?_eq_getElem (by have := HKL.out; omega)⟩
                      obtain ⟨b5, off5, rfl, kc⟩ := HCELL.out wr ((Mod.of_ext HE.out).trans HMO.out) m3 _ hmk hx
                      have HWX := Lib.hid (HWL.out _ (List.mem_of_getElem? hx))
                      simp only at kc HWX
                      have HDR := Lib.hid (show remL x (L.drop m3) = L.drop (m3 + 1) from drop_rem HND.out hx)
                      have HNDD := Lib.hid (show ((L.drop m3).map (·.1)).Nodup by rw [List.map_drop]; exact HND.out.sublist (List.drop_sublist _ _))
                      have j1 : (0 : Int) ≤ (m3 : Int) := by omega
                      have j2 : (m3 : Int) < (k : Int) := by omega
                      have hwm : IntKind.i64.wrap ((m3 : Int) + 1) = (m3 : Int) + 1 := IntWalk.i64_in _ (by omega)
                      clear hx
                      go_wp2_with (refine wpList_ldel rfl _ _ rfl rfl HMr.out HNDD.out x rfl HWX.out ?_; intro w6 hm6 M6)
                      rw [HDR.out] at hm6
                      have hm6 := Lib.hid hm6
                      have M6 := Lib.hid (HMO.out.trans M6)
                      go_roundw
                      case rel => exact ⟨m3 + 1, by omega, by go_num, hm6, M6⟩
                      case measure => simp [intOf]; omega
                    · obtain rfl : k = m3 := by omega
                      obtain ⟨W6, hW6⟩ : ∃ W6, W6 = wr := ⟨_, rfl⟩
                      subst hW6
                      have HT6 := Lib.hid (((HT4.out.ext HE.out).other HMO.out (fun q hq => by rw [hq]; exact ⟨HMW.out, HT4.out.dis M (.inl rfl)⟩)).sub (Y := fun k => k = M) (fun q hq => ⟨HT4.out.dis q (.inl hq), by rw [hq]; exact HMr.out.lt⟩))
                      have B6 := Lib.hid ((B4.out.ext HE.out).mod HMO.out HNN.out)
                      have j8 : ¬ ((k : Int) < (k : Int)) := by omega
                      clear hmk hm3
                      go_wp2_with (refine wpList_lrange rfl _ rfl rfl HMr.out ?_; intro w6 cnt hr E6 hz)
                      obtain ⟨r, hrr⟩ : ∃ r, W6.heap.size = r := ⟨_, rfl⟩
                      rw [hrr] at hr ⊢
                      have HRR := Lib.hid hrr
                      have HR0 := Lib.hid hr
                      have E6 := Lib.hid E6
                      clear hr hrr hz j8
                      go_loopg [159] cnt (fun g _ wr => Hid (RanL M r wr (L.drop k) g) ∧ Hid (Mod (fun q => q = r) w6 wr))
                      case atStart => exact ⟨HR0, Lib.hid (Mod.refl _ _)⟩
                      case round =>
                        clear HR0
                        obtain ⟨hrn, hMr⟩ := hrel
                        go_wp2_with (at_next; refine wpList_lnext rfl _ rfl rfl hrn.out ?_ ?_)
                        · have EW := Mod.toExt E6.out hMr.out (fun q hq he => by rw [he, ← HRR.out] at hq; omega)
                          go_meet
                          exact ⟨rfl, F, L.drop k, Lib.hid (HT6.out.ext EW), Lib.hid (HMr.out.ext EW)⟩
                        · intro x c7 w7 cnt7 hx h7 hlt7 M7 hen
                          have hM7 := Lib.hid (hMr.out.trans M7)
                          have hlate7 := rest_late HSRT.out (now := ot) (fun d hd h => by have := HLATE.out d hd; omega) hx
                          simp only at hlate7
                          have b2 := (B6.out.ext (Mod.toExt E6.out hM7.out (fun q hq he => by rw [he, ← HRR.out] at hq; omega))).cell 2
                          simp at b2
                          have h7 := Lib.hid h7
                          have hlt7 := Lib.hid hlt7
                          clear M7 hx
                          go_wp2
                          go_roundg cnt7
                          case rel => exact ⟨h7, hM7⟩
                          case measure => exact hlt7.out
        · have hkb3 : (kd == 3) = false := by simpa using hkd3
          clear b0 b1 b2
          go_wp2
          go_meet
          exact ⟨rfl, F, L, Lib.hid (HT1.out.sub (Y := fun k => k = M) (fun k hk => ⟨HT1.out.dis k (.inl hk), by rw [hk]; exact HM1.out.lt⟩)), HM1⟩
      case rest =>
        clear HT1 HM1 B b0 b1 b2 HND HSL HNN
        obtain ⟨rfl, F9, L9, HT, HM⟩ := hcut
        go_wp2_with fail
        refine (tlen_any T F9 L9 _ HT.out.tm).mono ?_
        rintro e w8 ⟨rfl, E8⟩
        have HT := Lib.hid (HT.out.ext E8)
        have HM := Lib.hid (HM.out.ext E8)
        clear E8
        go_wp2_with (refine wpList_llen rfl _ rfl rfl HM.out ?_)
        go_roundw
        case rel => exact ⟨m + 1, F9, L9, by omega, by go_num, HT, HM⟩
        case measure => simp [intOf]; omega
    · obtain rfl : m = N := by omega
      go_wp2
      go_ret
      exact ⟨rfl, HT.out.E⟩
end Go.Proofs.Ytapajcgfdiamdaa
