/- Timers that are set and cancelled: walked; the law answers true. Conditions: numbers fit. -/
import Derived.Test.YtapajcgfdiamdaaN07
namespace Go.Proofs.Ytapajcgfdiamdaa
open Go.RowKit Go.Kb Go.Maps

theorem set_full {L : List (Int × Int)} {id due : Int} (h : fullL L id = true) : setE L id = 6 ∧ setT L id due = L := by unfold setE setT; rw [h]; exact ⟨rfl, rfl⟩
theorem set_done {L : List (Int × Int)} {id due : Int} (h : fullL L id = false) : setE L id = 0 ∧ setT L id due = insL (id, due) (remL id L) := by unfold setE setT; rw [h]; exact ⟨rfl, rfl⟩
theorem full_has {L : List (Int × Int)} {id : Int} (h : hasL L id = true) : fullL L id = false := by unfold fullL; rw [h]; rfl
set_option maxRecDepth 100000 in
set_option maxHeartbeats 30000000 in
theorem timerCancels_walk (v : Value) (l : List (Int × Int × Int)) (hwf : ∀ o ∈ l, (Lit.int .i64 o.2.1).wf = true ∧ (Lit.int .i64 o.2.2).wf = true) (id at_ : Int) (hid : (Lit.int .i64 id).wf = true) {A : Nat → Prop} (w : World) (h : RdY Rep.op3 A w v l) :
    Calls Try.prog 6 #[v, .int .i64 id, .int .i64 at_] w fun e w' => e = .returned (.bool true) ∧ Ext w w' := by
  obtain ⟨Ad, c, rfl, hc1, hc2⟩ := h.shape
  obtain ⟨N, hN⟩ : ∃ N, l.length = N := ⟨_, rfl⟩
  rw [hN] at h hc1 ⊢
  have H := Lib.hid h
  have HWF := Lib.hid hwf
  have HID := Lib.hid hid
  have HN := Lib.hid hN
  have hmm := @run_makeMap Try.prog
  clear h hwf hid hN
  go_enter Try.func6, Try.ntmps6
  go_wp2_with fail
  refine (alive_any _).mono ?_
  rintro e w1 ⟨rfl, E1⟩
  by_cases hg : 200 < N
  · have hg2 : (200 : Int) < (N : Int) := by omega
    go_wp2
    go_ret
    exact ⟨rfl, E1⟩
  have hg2 : ¬ (200 : Int) < (N : Int) := by omega
  have HG := Lib.hid hg
  clear hg
  go_wp2_with fail
  refine (One.new (W0 := w) (X := fun _ => False) w1 E1 (fun _ h => h.elim)).mono ?_
  rintro e w2 ⟨Ta, Fa, rfl, ha, hfa, E2⟩
  have HA := Lib.hid ha
  clear ha hfa
  go_wp2_with fail
  refine (One.new (W0 := w) (X := fun _ => False) w2 (E1.trans E2) (fun _ h => h.elim)).mono ?_
  rintro e w3 ⟨Tb, Fb, rfl, hb, hfb, E3⟩
  have HT := Lib.hid (show Two w Ta Tb Fa Fb (fun _ => False) w3 [] [] from ⟨HA.out.ext E3, hb, fun k h1 h2 => by have := HA.out.tm.lt k h1; have := hfb k h2; omega⟩)
  clear hb hfb HA E1 E2 E3 hg2
  obtain ⟨M, hM⟩ : ∃ M, w3.heap.size = M := ⟨_, rfl⟩
  obtain ⟨W3, hW3⟩ : ∃ W, W = w3.alloc (.map #[] 0) := ⟨_, rfl⟩
  have HM0 := Lib.hid (show MapL M W3 [] by rw [hW3, ← hM]; exact MapL.made w3)
  have E34 : Ext w3 W3 := by rw [hW3]; exact (Ext.refl _).alloc _
  have HT0 := Lib.hid ((HT.out.ext E34).sub (Y := fun k => k = M) (fun k hk => by
    subst hk
    refine ⟨fun hf => ?_, fun hf => ?_, HM0.out.lt⟩
    · have := HT.out.a.tm.lt k hf; omega
    · have := HT.out.b.tm.lt k hf; omega))
  have HMW := Lib.hid (show w.heap.size ≤ M by rw [← hM]; exact HT.out.a.E.size)
  have HW3 := Lib.hid hW3
  have HMN := Lib.hid hM
  clear hM hW3 E34 HT
  go_wp2
  rw [HMN.out, ← HW3.out]
  clear HW3 HMN
  go_loopw [25] (fun i wr => ∃ (m : Nat) (Fa Fb : Nat → Prop) (L : List (Int × Int)), m ≤ N ∧ i = .int .i64 m ∧ Hid (Two w Ta Tb Fa Fb (fun k => k = M) wr L L) ∧ Hid (MapL M wr L)) (fun i _ => N - (intOf i).toNat)
  case atStart => exact ⟨0, Fa, Fb, [], Nat.zero_le _, rfl, HT0, HM0⟩
  case round =>
    clear HT0 HM0 Fa Fb
    obtain ⟨m, Fa, Fb, L, hm, rfl, HT, HM⟩ := hrel
    by_cases hmn : m < N
    · obtain ⟨b, off, ⟨kd, oi, ot⟩, rfl, hd, k0, k1, k2⟩ := op_at (H.out.ext HT.out.a.E) hmn
      obtain ⟨hwi, hwt⟩ := HWF.out _ (List.mem_of_getElem? hd)
      simp only at k0 k1 k2 hwi hwt
      have HWI := Lib.hid hwi
      have HWT := Lib.hid hwt
      have i1 : (0 : Int) ≤ (m : Int) := by omega
      have i2 : (m : Int) < (N : Int) := by omega
      clear hd hwi hwt
      go_upto_region 10 with fail
      obtain ⟨n, hn⟩ : ∃ n, wr.heap.size = n := ⟨_, rfl⟩
      obtain ⟨W, hW⟩ : ∃ W, W = wr.alloc (.cells #[.int .i64 kd, .int .i64 oi, .int .i64 ot] 31) := ⟨_, rfl⟩
      have B := Lib.hid (show Blk W n 31 #[.int .i64 kd, .int .i64 oi, .int .i64 ot] by rw [hW]; exact Blk.at_ _ _ hn)
      have EW : Ext wr W := by rw [hW]; exact (Ext.refl _).alloc _
      have HT1 := Lib.hid ((HT.out.ext EW).sub (Y := fun k => k = M ∨ k = n) (fun k hk => by
        rcases hk with rfl | rfl
        · exact ⟨HT.out.a.dis k rfl, HT.out.b.dis k rfl, (HM.out.ext EW).lt⟩
        · exact ⟨fun hf => by have := HT.out.a.tm.lt k hf; omega, fun hf => by have := HT.out.b.tm.lt k hf; omega, B.out.lt⟩))
      have HM1 := Lib.hid (HM.out.ext EW)
      have HNN := Lib.hid (show n ≠ M by have := HM.out.lt; omega)
      have HND := Lib.hid HT.out.a.tm.nd
      have HSL := Lib.hid HT.out.a.tm.small
      rw [hn, ← hW]
      have b0 := B.out.cell 0
      have b1 := B.out.cell 1
      have b2 := B.out.cell 2
      simp at b0 b1 b2
      clear hW EW hn k0 k1 k2 HT HM
      by_cases hkd : kd = 1
      · have hkb : (kd == 1) = true := by simpa using hkd
        cases hfl : fullL L oi
        · obtain ⟨he, hs⟩ := set_done (due := ot) hfl
          have hc := HT1.out.set oi ot HWI.out
          rw [he, hs] at hc
          have HC := Lib.hid hc
          have HES := Lib.hid (And.intro he hs)
          clear hfl he hs hc
          go_wp2_with fail
          refine HC.out.mono ?_
          rintro e w4 ⟨rfl, ⟨Fa2, h4⟩, M4⟩
          have B4 := Lib.hid (B.out.mod M4 (fun h => h.2 (.inr rfl)))
          have HM4 := Lib.hid (HM1.out.mod M4 (fun h => h.2 (.inl rfl)))
          have HT4 := Lib.hid h4
          have b0 := B4.out.cell 0
          have b1 := B4.out.cell 1
          have b2 := B4.out.cell 2
          simp at b0 b1 b2
          have hc := h4.symm.set oi ot HWI.out
          rw [HES.out.1, HES.out.2] at hc
          have HC := Lib.hid hc
          clear h4 M4 HT1 HM1 B hc
          go_wp2_with fail
          refine HC.out.mono ?_
          rintro e w5 ⟨rfl, ⟨Fb2, h5⟩, M5⟩
          have B5 := Lib.hid (B4.out.mod M5 (fun h => h.2 (.inr rfl)))
          have HM5 := Lib.hid (HM4.out.mod M5 (fun h => h.2 (.inl rfl)))
          have HT5 := Lib.hid h5.symm
          have b0 := B5.out.cell 0
          have b1 := B5.out.cell 1
          have b2 := B5.out.cell 2
          simp at b0 b1 b2
          clear h5 M5 HT4 HM4 B4 HC
          go_wp2_with (at_mapUpdate; refine wpList_lput rfl _ _ _ rfl rfl HM5.out HND.out oi ot rfl rfl HWI.out HWT.out (by have := HSL.out; omega) ?_; intro w6 hm6 M6)
          have HM6 := Lib.hid hm6
          have HT6 := Lib.hid ((HT5.out.other M6 (fun k hk => by rw [hk]; exact ⟨HMW.out, .inl rfl⟩)).sub (Y := fun k => k = M) (fun k hk => ⟨HT5.out.a.dis k (.inl hk), HT5.out.b.dis k (.inl hk), by rw [hk]; exact HM6.out.lt⟩))
          clear hm6 M6 HT5 HM5
          go_roundw
          case rel => exact ⟨m + 1, _, _, _, by omega, by go_num, HT6, HM6⟩
          case measure => simp [intOf]; omega
        · obtain ⟨he, hs⟩ := set_full (due := ot) hfl
          have hc := HT1.out.set oi ot HWI.out
          rw [he, hs] at hc
          have HC := Lib.hid hc
          clear hfl he hs hc
          go_wp2_with fail
          refine HC.out.mono ?_
          rintro e w4 ⟨rfl, ⟨Fa2, h4⟩, M4⟩
          have HM4 := Lib.hid (HM1.out.mod M4 (fun h => h.2 (.inl rfl)))
          have HT4 := Lib.hid (h4.sub (Y := fun k => k = M) (fun k hk => ⟨h4.a.dis k (.inl hk), h4.b.dis k (.inl hk), by rw [hk]; exact HM4.out.lt⟩))
          clear h4 M4 HT1 HM1 B HC b0 b1 b2
          go_wp2
          go_roundw
          case rel => exact ⟨m + 1, _, _, _, by omega, by go_num, HT4, HM4⟩
          case measure => simp [intOf]; omega
      · have hkb : (kd == 1) = false := by simpa using hkd
        have HT4 := Lib.hid (HT1.out.sub (Y := fun k => k = M) (fun k hk => ⟨HT1.out.a.dis k (.inl hk), HT1.out.b.dis k (.inl hk), by rw [hk]; exact HM1.out.lt⟩))
        go_wp2
        go_roundw
        case rel => exact ⟨m + 1, _, _, _, by omega, by go_num, HT4, HM1⟩
        case measure => simp [intOf]; omega
    · obtain rfl : m = N := by omega
      have HSRT := Lib.hid HT.out.a.tm.srt
      have HND := Lib.hid HT.out.a.tm.nd
      cases hh : hasL L id
      · cases hfl : fullL L id
        · obtain ⟨he, hs⟩ := set_done (due := at_) hfl
          have hb := HT.out.symm.set id at_ HID.out
          have hlen := ins_len (id := id) (due := at_) HND.out
          rw [hh] at hlen
          have hlen : (insL (id, at_) (remL id L)).length = L.length + 1 := hlen
          have hsl : L.length ≤ 256 := HT.out.a.tm.small
          have hwl : IntKind.i64.wrap ((L.length : Int) + 1) = (L.length : Int) + 1 := IntWalk.i64_in _ (by omega)
          rw [he, hs] at hb
          have HBB := Lib.hid hb
          have HHM := Lib.hid hh
          have HHH := Lib.hid (show hasL (insL (id, at_) (remL id L)) id = true by rw [has_ins]; simp)
          clear hfl he hs hh hb
          go_wp2_with (at_lookup; refine wpList_lmiss rfl _ _ rfl rfl HM.out id HHM.out rfl HID.out ?_)
          refine HBB.out.mono ?_
          rintro e w4 ⟨rfl, ⟨Fb2, h4⟩, M4⟩
          have HT4 := Lib.hid h4
          clear h4 M4 HM HT HBB
          go_wp2_with fail
          refine (tlen_any Tb _ _ _ HT4.out.a.tm).mono ?_
          rw [hlen]
          rintro e w5 ⟨rfl, E5⟩
          have HT5 := Lib.hid (HT4.out.ext E5)
          go_wp2_with fail
          refine (tlen_any Ta _ _ _ HT5.out.b.tm).mono ?_
          rintro e w6 ⟨rfl, E6⟩
          have HT6 := Lib.hid (HT5.out.ext E6)
          clear E5 E6 HT4 HT5
          have hcc := HT6.out.cancel id HID.out
          rw [HHH.out, ins_away HSRT.out HHM.out] at hcc
          have HCC := Lib.hid hcc
          clear hcc
          go_wp2_with fail
          refine HCC.out.mono ?_
          rintro e w7 ⟨rfl, h7, M7⟩
          have HT7 := Lib.hid h7.symm
          clear h7 M7 HCC HT6
          obtain ⟨Fb, hF⟩ : ∃ G, G = Fb2 := ⟨_, rfl⟩
          subst hF
          go_wp2_with fail
          refine (tlen_any Ta _ L _ (HT7.out).a.tm).mono ?_
          rintro e u1 ⟨rfl, E1⟩
          have H2 := Lib.hid ((HT7.out).ext E1)
          go_wp2_with fail
          refine (tlen_any Tb _ L _ H2.out.b.tm).mono ?_
          rintro e u2 ⟨rfl, E2⟩
          have H2 := Lib.hid (H2.out.ext E2)
          clear E1 E2
          go_wp2_with fail
          refine (H2.out.due at_).mono ?_
          rintro e u3 ⟨A3, c3, rfl, o3, h3, M3⟩
          have HW := Lib.hid (show ∀ k, Fa k ∨ Fb k → k < u2.heap.size from fun k hk => hk.elim (H2.out.a.tm.lt k) (H2.out.b.tm.lt k))
          have O3 := Lib.hid o3
          have H3 := Lib.hid h3
          clear o3 h3 M3 H2
          go_wp2_with fail
          refine (H3.out.due2 at_ _ A3 c3 _ u2 O3.out HW.out).mono ?_
          rintro e u4 ⟨A4, c4, rfl, r4, r3, h4, M4⟩
          have R4 := Lib.hid r4
          have R3 := Lib.hid r3
          have H4 := Lib.hid h4
          clear r4 r3 h4 M4 H3 O3 HW
          go_wp2_with fail
          refine (ints_same (A := fun _ => True) (B := fun _ => True) _ _ (dueL at_ L) _ R3.out R4.out).mono ?_
          rintro e u5 ⟨rfl, E5⟩
          have H5 := Lib.hid (H4.out.ext E5)
          clear E5 H4 R3 R4
          go_wp2_with fail
          refine (H5.out.due 9223372036854775807).mono ?_
          rintro e u6 ⟨A3, c3, rfl, o3, h3, M3⟩
          have HW := Lib.hid (show ∀ k, Fa k ∨ Fb k → k < u5.heap.size from fun k hk => hk.elim (H5.out.a.tm.lt k) (H5.out.b.tm.lt k))
          have O3 := Lib.hid o3
          have H3 := Lib.hid h3
          clear o3 h3 M3 H5
          go_wp2_with fail
          refine (H3.out.due2 9223372036854775807 _ A3 c3 _ u5 O3.out HW.out).mono ?_
          rintro e u7 ⟨A4, c4, rfl, r4, r3, h4, M4⟩
          have R4 := Lib.hid r4
          have R3 := Lib.hid r3
          have H4 := Lib.hid h4
          clear r4 r3 h4 M4 H3 O3 HW
          go_wp2_with fail
          refine (ints_same (A := fun _ => True) (B := fun _ => True) _ _ (dueL 9223372036854775807 (restL at_ L)) _ R3.out R4.out).mono ?_
          rintro e u8 ⟨rfl, E8⟩
          have H8 := Lib.hid (H4.out.ext E8)
          clear E8 H4 R3 R4
          go_wp2
          go_ret
          exact ⟨rfl, H8.out.a.E⟩
        · obtain ⟨he, hs⟩ := set_full (due := at_) hfl
          have hb := HT.out.symm.set id at_ HID.out
          have hl256 : L.length = 256 := by
            unfold fullL at hfl
            rw [hh] at hfl
            simpa using hfl
          have hl1 : ((L.length : Nat) : Int) = 256 := by omega
          have hl2 : (((L.length : Nat) : Int) != 256) = false := by rw [hl1]; rfl
          rw [he, hs] at hb
          have HBB := Lib.hid hb
          have HHM := Lib.hid hh
          clear hfl he hs hh hl256 hb
          go_wp2_with (at_lookup; refine wpList_lmiss rfl _ _ rfl rfl HM.out id HHM.out rfl HID.out ?_)
          refine HBB.out.mono ?_
          rintro e w4 ⟨rfl, ⟨Fb2, h4⟩, M4⟩
          have HT4 := Lib.hid h4.symm
          clear h4 M4 HM HT HBB
          go_wp2_with fail
          refine (tlen_any Ta _ _ _ HT4.out.a.tm).mono ?_
          rintro e w5 ⟨rfl, E5⟩
          have HT5 := Lib.hid (HT4.out.ext E5)
          clear E5 HT4
          obtain ⟨Fb, hF⟩ : ∃ G, G = Fb2 := ⟨_, rfl⟩
          subst hF
          go_wp2_with fail
          refine (tlen_any Ta _ L _ (HT5.out).a.tm).mono ?_
          rintro e u1 ⟨rfl, E1⟩
          have H2 := Lib.hid ((HT5.out).ext E1)
          go_wp2_with fail
          refine (tlen_any Tb _ L _ H2.out.b.tm).mono ?_
          rintro e u2 ⟨rfl, E2⟩
          have H2 := Lib.hid (H2.out.ext E2)
          clear E1 E2
          go_wp2_with fail
          refine (H2.out.due at_).mono ?_
          rintro e u3 ⟨A3, c3, rfl, o3, h3, M3⟩
          have HW := Lib.hid (show ∀ k, Fa k ∨ Fb k → k < u2.heap.size from fun k hk => hk.elim (H2.out.a.tm.lt k) (H2.out.b.tm.lt k))
          have O3 := Lib.hid o3
          have H3 := Lib.hid h3
          clear o3 h3 M3 H2
          go_wp2_with fail
          refine (H3.out.due2 at_ _ A3 c3 _ u2 O3.out HW.out).mono ?_
          rintro e u4 ⟨A4, c4, rfl, r4, r3, h4, M4⟩
          have R4 := Lib.hid r4
          have R3 := Lib.hid r3
          have H4 := Lib.hid h4
          clear r4 r3 h4 M4 H3 O3 HW
          go_wp2_with fail
          refine (ints_same (A := fun _ => True) (B := fun _ => True) _ _ (dueL at_ L) _ R3.out R4.out).mono ?_
          rintro e u5 ⟨rfl, E5⟩
          have H5 := Lib.hid (H4.out.ext E5)
          clear E5 H4 R3 R4
          go_wp2_with fail
          refine (H5.out.due 9223372036854775807).mono ?_
          rintro e u6 ⟨A3, c3, rfl, o3, h3, M3⟩
          have HW := Lib.hid (show ∀ k, Fa k ∨ Fb k → k < u5.heap.size from fun k hk => hk.elim (H5.out.a.tm.lt k) (H5.out.b.tm.lt k))
          have O3 := Lib.hid o3
          have H3 := Lib.hid h3
          clear o3 h3 M3 H5
          go_wp2_with fail
          refine (H3.out.due2 9223372036854775807 _ A3 c3 _ u5 O3.out HW.out).mono ?_
          rintro e u7 ⟨A4, c4, rfl, r4, r3, h4, M4⟩
          have R4 := Lib.hid r4
          have R3 := Lib.hid r3
          have H4 := Lib.hid h4
          clear r4 r3 h4 M4 H3 O3 HW
          go_wp2_with fail
          refine (ints_same (A := fun _ => True) (B := fun _ => True) _ _ (dueL 9223372036854775807 (restL at_ L)) _ R3.out R4.out).mono ?_
          rintro e u8 ⟨rfl, E8⟩
          have H8 := Lib.hid (H4.out.ext E8)
          clear E8 H4 R3 R4
          go_wp2
          go_ret
          exact ⟨rfl, H8.out.a.E⟩
      · obtain ⟨due, hmem⟩ := has_mem hh
        obtain ⟨he, hs⟩ := set_done (due := at_) (full_has hh)
        have hb := HT.out.symm.set id at_ HID.out
        rw [he, hs] at hb
        have hf2 : fullL (insL (id, at_) (remL id L)) id = false := full_has (by rw [has_ins]; simp)
        obtain ⟨he2, hs2⟩ := set_done (due := due) hf2
        rw [ins_back HSRT.out HND.out hmem] at hs2
        have HMEM := Lib.hid hmem
        have HE2 := Lib.hid (And.intro he2 hs2)
        have HBB := Lib.hid hb
        clear hh he hs hf2 he2 hs2 hmem hb
        go_wp2_with (at_lookup; refine wpList_lhit rfl _ _ rfl rfl HM.out id due HMEM.out rfl HID.out ?_)
        refine HBB.out.mono ?_
        rintro e w4 ⟨rfl, ⟨Fb2, h4⟩, M4⟩
        have hc2 := h4.set id due HID.out
        rw [HE2.out.1, HE2.out.2] at hc2
        have HC2 := Lib.hid hc2
        clear h4 M4 HM HT HBB hc2
        go_wp2_with fail
        refine HC2.out.mono ?_
        rintro e w5 ⟨rfl, ⟨Fb3, h5⟩, M5⟩
        have HT5 := Lib.hid h5.symm
        clear h5 M5 HC2
        obtain ⟨Fb, hF⟩ : ∃ G, G = Fb3 := ⟨_, rfl⟩
        subst hF
        go_wp2_with fail
        refine (tlen_any Ta _ L _ (HT5.out).a.tm).mono ?_
        rintro e u1 ⟨rfl, E1⟩
        have H2 := Lib.hid ((HT5.out).ext E1)
        go_wp2_with fail
        refine (tlen_any Tb _ L _ H2.out.b.tm).mono ?_
        rintro e u2 ⟨rfl, E2⟩
        have H2 := Lib.hid (H2.out.ext E2)
        clear E1 E2
        go_wp2_with fail
        refine (H2.out.due at_).mono ?_
        rintro e u3 ⟨A3, c3, rfl, o3, h3, M3⟩
        have HW := Lib.hid (show ∀ k, Fa k ∨ Fb k → k < u2.heap.size from fun k hk => hk.elim (H2.out.a.tm.lt k) (H2.out.b.tm.lt k))
        have O3 := Lib.hid o3
        have H3 := Lib.hid h3
        clear o3 h3 M3 H2
        go_wp2_with fail
        refine (H3.out.due2 at_ _ A3 c3 _ u2 O3.out HW.out).mono ?_
        rintro e u4 ⟨A4, c4, rfl, r4, r3, h4, M4⟩
        have R4 := Lib.hid r4
        have R3 := Lib.hid r3
        have H4 := Lib.hid h4
        clear r4 r3 h4 M4 H3 O3 HW
        go_wp2_with fail
        refine (ints_same (A := fun _ => True) (B := fun _ => True) _ _ (dueL at_ L) _ R3.out R4.out).mono ?_
        rintro e u5 ⟨rfl, E5⟩
        have H5 := Lib.hid (H4.out.ext E5)
        clear E5 H4 R3 R4
        go_wp2_with fail
        refine (H5.out.due 9223372036854775807).mono ?_
        rintro e u6 ⟨A3, c3, rfl, o3, h3, M3⟩
        have HW := Lib.hid (show ∀ k, Fa k ∨ Fb k → k < u5.heap.size from fun k hk => hk.elim (H5.out.a.tm.lt k) (H5.out.b.tm.lt k))
        have O3 := Lib.hid o3
        have H3 := Lib.hid h3
        clear o3 h3 M3 H5
        go_wp2_with fail
        refine (H3.out.due2 9223372036854775807 _ A3 c3 _ u5 O3.out HW.out).mono ?_
        rintro e u7 ⟨A4, c4, rfl, r4, r3, h4, M4⟩
        have R4 := Lib.hid r4
        have R3 := Lib.hid r3
        have H4 := Lib.hid h4
        clear r4 r3 h4 M4 H3 O3 HW
        go_wp2_with fail
        refine (ints_same (A := fun _ => True) (B := fun _ => True) _ _ (dueL 9223372036854775807 (restL at_ L)) _ R3.out R4.out).mono ?_
        rintro e u8 ⟨rfl, E8⟩
        have H8 := Lib.hid (H4.out.ext E8)
        clear E8 H4 R3 R4
        go_wp2
        go_ret
        exact ⟨rfl, H8.out.a.E⟩
end Go.Proofs.Ytapajcgfdiamdaa
