/- request.Encode of any request, by contract: its kind's name and the bytes of its kind's fields, or a fault. Conditions: few bytes. -/
import Derived.Test.YtldijmappinngaaGreatDoorPM04
namespace Go.Proofs.YtldijmappinngaaGreatDoor
open Go.RowKit Go.Kb
set_option maxRecDepth 100000

/-- what Encode answers -/
def EncQP (r : Rq) (w : World) (e : Ending) (w' : World) : Prop :=
  ∃ (nm : ByteArray) (u : Value) (q : Int), e = .returned (.tuple #[.string nm, u, .int .i64 q]) ∧ Ext w w' ∧
    (q = 0 → ∃ k : Nat, r.k = (k : Int) ∧ 1 ≤ k ∧ k ≤ 10 ∧ nm = nmQ k ∧ askQ r = 0 ∧ OwnS Ub8 5 w.heap.size (fun _ => False) w' u (encL (fldsQ r k))) ∧ (q ≠ 0 → nm = ⟨#[]⟩ ∧ u = .slice none 0 0)
set_option maxHeartbeats 4000000 in
theorem qencode_any (r : Rq) (v : Value) (w : World) (hv : RdS Ub8 (fun j => j < w.heap.size) w v r.mo) (hr : r.Ok) : Calls Tryz.prog 14 #[.agg (rqA r v)] w (EncQP r w) := by
  obtain ⟨Av, cv, rfl, -, -⟩ := hv.shape
  have HD := Lib.hid hv
  have HOK := Lib.hid hr
  have hiQ : (Tryz.prog.info? 47).map (·.size) = some 11 := by kernel_rfl
  have hiR : (Tryz.prog.info? 87).map (·.size) = some 5 := by kernel_rfl
  obtain ⟨W1, hW1⟩ : ∃ W1, W1 = w.alloc (.cells (rqA r (.slice Av r.mo.length cv)) 47) := ⟨_, rfl⟩
  have E1 : Ext w W1 := by rw [hW1]; exact (Ext.refl _).alloc _
  have P1 := Lib.hid (show Blk W1 w.heap.size 47 (rqA r (.slice Av r.mo.length cv)) by rw [hW1]; exact Blk.new w _ _)
  have HW1 := Lib.hid hW1
  have k0 := (rqC P1.out).k0
  have hs1 : w.heap.size < W1.heap.size := P1.out.lt
  clear hv hr hW1
  by_cases hin : 1 ≤ r.k ∧ r.k ≤ 10
  · obtain ⟨k, hk⟩ : ∃ k : Nat, r.k = (k : Int) := ⟨r.k.toNat, by omega⟩
    have h1 : 1 ≤ k := by omega
    have h10 : k ≤ 10 := by omega
    have HOF := Lib.hid (show ∀ w', Calls Tryz.prog 28 #[.int .i64 r.k] w' _ from fun w' => by rw [hk]; exact of_in2 k h1 h10 w')
    have hasks := asksQ k hk h1 h10
    have hgets := getsQ HOK.out k h1 h10
    have hen1 := hasks.enters
    have hen2 := hgets.enters
    have HA := Lib.hid hasks.asks
    have HG := Lib.hid hgets.gets
    have HK := Lib.hid (show r.k = (k : Int) ∧ 1 ≤ k ∧ k ≤ 10 from ⟨hk, h1, h10⟩)
    clear hasks hgets hk h1 h10 hin
    go_enter Tryz.func14, Tryz.ntmps14
    go_upto_region 1 with fail
    rw [← HW1.out]
    clear HW1
    go_wp2_with fail
    refine (HOF.out _).mono ?_
    rintro e w2 ⟨Ak, ck, rfl, E2, RK⟩
    have E02 : Ext w w2 := E1.trans E2
    have P2 := Lib.hid (P1.out.ext E2)
    have RK := Lib.hid RK
    clear k0 P1 E1 HOF
    go_upto_region 2 with (refine wpList_store_M rfl 87 _ _ rfl w2.heap.size _ rfl rfl 87 _ (Blk.new _ _ _) hiR rfl (by simp [Value.oneCell']) ?_; intro w3 P3 M3)
    have E3 : Ext w2 w3 := Mod.toExt ((Ext.refl w2).alloc _) M3 (fun k hk he => by omega)
    have E03 := E02.trans E3
    have P2 := Lib.hid (P2.out.ext E3)
    have RK := Lib.hid (RdN.ext RK.out E3)
    obtain ⟨n3, hn3⟩ : ∃ n3, w2.heap.size = n3 := ⟨_, rfl⟩
    rw [hn3] at P3 ⊢
    have P3 := Lib.hid P3
    clear M3 E3 E2 E02 hn3
    go_upto_region 5 with (refine wpList_load_row rfl 47 _ rfl _ rfl 47 _ _ _ P2.out Tryz.underlying47 rfl hiQ ?_)
    obtain ⟨W6, hW6⟩ : ∃ W6, W6 = w3.alloc (.cells (rqA r (.slice Av r.mo.length cv)) 92) := ⟨_, rfl⟩
    have E6 : Ext w3 W6 := by rw [hW6]; exact (Ext.refl _).alloc _
    have P6 := Lib.hid (show Blk W6 w3.heap.size 92 (rqA r (.slice Av r.mo.length cv)) by rw [hW6]; exact Blk.new w3 _ _)
    have hs3 : w.heap.size ≤ w3.heap.size := E03.size
    obtain ⟨n6, hn6⟩ : ∃ n6, w3.heap.size = n6 := ⟨_, rfl⟩
    rw [← hW6]
    rw [hn6] at P6 hs3 ⊢
    have E06 := E03.trans E6
    have P3 := Lib.hid (P3.out.ext E6)
    have RK := Lib.hid (RdN.ext RK.out E6)
    have kf4 := P3.out.cell 4
    clear hW6 hn6 P2 E6 E03
    generalize Value.agg (rqA r (.slice Av r.mo.length cv)) = z21
    obtain ⟨z, hz⟩ : ∃ z, askQ r = z := ⟨_, rfl⟩
    rw [hz] at HA
    have HZ := Lib.hid hz
    clear hz
    go_wp2_with fail
    refine (HA.out n6 Av cv _ P6.out).mono ?_
    rintro e w7 ⟨rfl, E7⟩
    have E07 := E06.trans E7
    have P3 := Lib.hid (P3.out.ext E7)
    have P6 := Lib.hid (P6.out.ext E7)
    have RK := Lib.hid (RdN.ext RK.out E7)
    clear kf4 E06 E7 HA hen1
    by_cases hz0 : z = 0
    · subst hz0
      have kf2 := P3.out.cell 2
      obtain ⟨N, hN⟩ : ∃ N, (fldsQ r k).length = N := ⟨_, rfl⟩
      have HN := Lib.hid hN
      have hNK : (kindsQ k).length = N := by rw [← flds_lenQ r k]; exact hN
      have hN6 : N ≤ 6 := by rw [← hNK]; exact kinds_len k
      clear hN
      go_wp2_with fail
      refine (HG.out n6 _ (fun j => j < w.heap.size) w7 P6.out (HD.out.ext E07) (fun j hj => by have := E07.size; omega)).mono ?_
      rintro e w8 ⟨vl, rfl, o8, E8⟩
      have hbl : (bareQ r k).length = N := by unfold bareQ; rw [List.length_map]; exact HN.out
      obtain ⟨A8, c8, rfl, -, -⟩ := o8.shape
      have O8 := Lib.hid (show OwnS FdR 59 w7.heap.size (fun j => j < w.heap.size ∨ w7.heap.size ≤ j) w8 (.slice A8 N c8) (mixF (fldsQ r k) 0) by rw [mix_zero, ← hbl]; exact o8)
      rw [hbl]
      have E8 := Lib.hid E8
      have HS7 := Lib.hid E07.size
      have RK := Lib.hid (show RI .i64 w7 (.slice Ak N ck) (kindsQ k) by have h9 := RK.out; rw [← hNK]; exact h9)
      rw [hNK] at P3
      clear o8 hbl kf2 HG hen2 P6
      go_wp2
      go_loopw [37] (fun i wr => ∃ m : Nat, m ≤ N ∧ i = .int .i64 m ∧ Hid (OwnS FdR 59 w7.heap.size (fun j => j < w.heap.size ∨ w7.heap.size ≤ j) wr (.slice A8 N c8) (mixF (fldsQ r k) m)) ∧ Hid (Ext w7 wr)) (fun i _ => N - (intOf i).toNat)
      case atStart => exact ⟨0, Nat.zero_le _, rfl, O8, E8⟩
      case round =>
        clear O8 E8
        obtain ⟨m, hm, rfl, HO, hE⟩ := hrel
        by_cases hmn : m < N
        · obtain ⟨bk, offk, x, rfl, hx, hdx⟩ := (RdN.ext RK.out hE.out).icell hmn
          obtain ⟨g8, rfl, hg8, hfz⟩ := HO.out.addr (by omega)
          obtain ⟨f, hf⟩ : ∃ f, (fldsQ r k)[m]? = some f := ⟨_, List.getElem?_eq_getElem (by rw [HN.out]; exact hmn)⟩
          have hfx : f.k = x := by
            have h9 := hdx.out
            rw [← flds_kQ r k, List.getElem?_map, hf] at h9
            simpa using h9
          obtain ⟨b9, o9, At, ct, f9, he9, c0, -, -, -, -, -⟩ := fd_at HO.out.y hmn
          simp only [Option.some.injEq, Addr.mk.injEq, and_true] at he9
          obtain ⟨rfl, rfl⟩ := he9
          have kr1 := (P3.out.ext hE.out).cell 1
          have hfz0 := hfz (m * 4)
          have c0 : wr.cell? ⟨g8, m * 4, none⟩ = some (.int .i64 f9.k) := by simpa using c0
          have HO2 := Lib.hid (show OwnS FdR 59 w7.heap.size (fun j => j < w.heap.size ∨ w7.heap.size ≤ j) (wr.setCell ⟨g8, m * 4, none⟩ (.int .i64 x)) (.slice (some ⟨g8, 0, none⟩) N c8) (mixF (fldsQ r k) (m + 1)) from by
            rw [← mix_set hf]
            refine OwnS.store (i := 0) HO.out (by rw [mix_len, HN.out]; exact hmn) (by show 0 < 4; omega) ?_
            rintro cs d hd ⟨vt, rfl, ht⟩
            rw [mix_at hf] at hd
            obtain rfl := Option.some.inj hd
            exact ⟨vt, by rw [hfx]; rfl, ht⟩)
          have hE2 := Lib.hid (Mod.toExt hE.out ((Mod.refl (fun j => j = g8) wr).set1 (o := m * 4) (.int .i64 x)) (fun j hj he => by omega))
          clear HO hE hfz
          go_wp2
          go_roundw
          case rel => exact ⟨m + 1, by omega, by go_num, HO2, hE2⟩
          case measure => simp [intOf]; omega
        · obtain rfl : m = N := by omega
          have HOE := Lib.hid (show OwnS FdR 59 w7.heap.size (fun j => j < w.heap.size ∨ w7.heap.size ≤ j) wr (.slice A8 m c8) (fldsQ r k) by
            have h9 := HO.out
            rw [show mixF (fldsQ r k) m = fldsQ r k by rw [← HN.out]; exact mix_end _] at h9
            exact h9)
          have HW := Lib.hid (owrite_any _ (fldsQ r k) wr HOE.out.rdT.y (by rw [HN.out]; omega) (by rw [flds_kQ]; exact kinds_row k) (flds_okQ HOK.out k))
          have HEE := Lib.hid (E07.trans hE.out)
          have P3 := Lib.hid (P3.out.ext hE.out)
          have hes := HEE.out.size
          clear HO hE HOE
          go_wp2_with fail
          refine (HW.out).mono ?_
          rintro e w9 ⟨u, q, rfl, E9, hq0, hq1, -⟩
          have HQ0 := Lib.hid hq0
          have HQ1 := Lib.hid hq1
          have E09 := HEE.out.trans E9
          have kr0 := (P3.out.ext E9).cell 0
          clear hq0 hq1 E9
          by_cases hqz : q = 0
          · have HQ3 := Lib.hid ((HQ0.out hqz).2.2.lower hes)
            subst hqz
            clear HQ0 HQ1
            go_wp2
            go_ret3
            exact ⟨_, u, 0, rfl, E09, fun _ => ⟨k, HK.out.1, HK.out.2.1, HK.out.2.2, rfl, HZ.out, HQ3.out⟩, fun h => absurd rfl h⟩
          · have hqb : (q == 0) = false := by simpa using hqz
            go_wp2
            go_ret3
            exact ⟨_, _, q, rfl, E09, fun h => absurd h hqz, fun _ => ⟨rfl, rfl⟩⟩
    · have hzb : (z == 0) = false := by simpa using hz0
      go_wp2
      go_ret3
      exact ⟨_, _, z, rfl, E07, fun h => absurd h hz0, fun _ => ⟨rfl, rfl⟩⟩
  · have HOF := Lib.hid (fun w' => of_out r.k (by omega) w')
    clear hin
    go_enter Tryz.func14, Tryz.ntmps14
    go_upto_region 1 with fail
    rw [← HW1.out]
    clear HW1
    go_wp2_with fail
    refine (HOF.out _).mono ?_
    rintro e w2 ⟨rfl, E2⟩
    have E02 : Ext w w2 := E1.trans E2
    clear k0 P1 E1 HOF
    go_upto_region 2 with (refine wpList_store_M rfl 87 _ _ rfl w2.heap.size _ rfl rfl 87 _ (Blk.new _ _ _) hiR rfl (by simp [Value.oneCell']) ?_; intro w3 P3 M3)
    have E03 := E02.trans (Mod.toExt ((Ext.refl w2).alloc _) M3 (fun k hk he => by omega))
    clear M3 P3 E2 E02
    go_wp2
    go_ret3
    exact ⟨_, _, 8, rfl, E03, fun h => absurd h (by decide), fun _ => ⟨rfl, rfl⟩⟩
end Go.Proofs.YtldijmappinngaaGreatDoor
