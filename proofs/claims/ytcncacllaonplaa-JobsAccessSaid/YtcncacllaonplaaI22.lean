/- What a process may do with its terminal, by contract. Conditions: masks have 64 bits. -/
import Derived.Test.YtcncacllaonplaaH22
namespace Go.Proofs.Ytcncacllaonplaa
open Go.RowKit Go.Kb Go.Kb.Bits

set_option maxRecDepth 100000 in
set_option maxHeartbeats 3000000 in
theorem access_any {A : Nat → Prop} (Ad : Option Addr) (c : Nat) (l : List Pr) (nx s g : Int) (ts : Bool) (pid : Int) (wr : Bool) (w : World) (h : RdY Rp A w (.slice Ad l.length c) l) (hm : ∀ p ∈ l, Sig.U64 p.mask) :
    Calls Try.prog 9 #[tv Ad l.length c nx, .agg #[.int .i64 s, .int .i64 g, .bool ts], .int .i64 pid, .bool wr] w fun e w' => e = .returned (.tuple #[.int .i64 (accL l nx s g ts pid wr).1, .int .i64 (accL l nx s g ts pid wr).2]) ∧ Ext w w' := by
  have H := Lib.hid (rdy_pr (B := fun _ => False) h)
  have hoks := Lib.hid (RdY.oks h)
  obtain ⟨W, hW⟩ : ∃ W, W = (w.alloc (.cells #[.slice Ad l.length c, .int .i64 nx] 28)).alloc (.cells #[.int .i64 s, .int .i64 g, .bool ts] 33) := ⟨_, rfl⟩
  have hty := Lib.hid (show Blk W (w.heap.size + 1) 33 #[.int .i64 s, .int .i64 g, .bool ts] by rw [hW]; exact Blk.at_ _ _ (by simp))
  have hbox := Lib.hid (show Blk W w.heap.size 28 #[.slice Ad l.length c, .int .i64 nx] by rw [hW]; exact (Blk.new w _ _).alloc _)
  have E0 : Ext w W := by rw [hW]; exact (by repeat (first | with_reducible exact Ext.refl _ | refine Ext.drewN ?_ _ | refine Ext.drew ?_ | refine Ext.alloc ?_ _ | assumption | (refine Below.trans ?_ (by assumption)) | (refine Ext.trans ?_ (by assumption)) | (refine Below.trans ?_ (Below.mono (by assumption) (by omega)))))
  have kb0 := hbox.out.two
  have HLIV := Lib.hid (live_any (A := fun _ => False) Ad c l nx pid W (H.out.ext E0))
  have HM := Lib.hid hm
  have HW := Lib.hid hW
  clear h hW hm
  rw [HW.out] at kb0
  go_enter Try.func9, Try.ntmps9
  go_wp2_with fail
  rw [← HW.out]
  refine HLIV.out.mono ?_
  rintro e w1 ⟨rfl, E1⟩
  have E01 := E0.trans E1
  cases hl : liveL l nx pid
  · have HL := Lib.hid hl
    go_wp2
    refine bodyPost_ret (v := .tuple #[.int .i64 3, .int .i64 0]) (by simp [results, Try.results9, go_sem]) rfl ?_
    exact ⟨by unfold accL; rw [HL.out]; rfl, E01⟩
  · obtain ⟨hr, p, hgp, hpl, _⟩ := askL_live (live_ask hl)
    have hpok := hoks.out p hpl
    have hpm := HM.out p hpl
    have HPM := Lib.hid hpm
    have HACC := Lib.hid (show accL l nx s g ts pid wr = if !behP s g p || (wr && !ts) || (wr && deafP p 22) then (1, 0) else if deafP p (if wr then 22 else 21) || orphL l nx p.group then (3, 0) else (2, if wr then 22 else 21) by unfold accL; rw [hl, hgp]; rfl)
    have hg1 := get_any (A := fun _ => False) Ad c l nx pid w1 (H.out.ext E01)
    rw [hgp] at hg1
    have HG1 := Lib.hid hg1
    have kb := (hbox.out.ext E1).two
    clear hr hgp hg1 hpm hl kb0
    go_wp2_with fail
    refine HG1.out.mono ?_
    rintro e w2 ⟨rfl, E2⟩
    have E12 := E2
    obtain ⟨n10, hn10⟩ : ∃ n10, w2.heap.size = n10 := ⟨_, rfl⟩
    clear kb
    have hB := Lib.hid (behind_any s g ts p)
    have hD := Lib.hid fun sig hs w' => deaf_any p sig hs w' hpok HPM.out
    cases wr
    · go_wp2_with (first
        | (refine wpList_load_row rfl 40 _ rfl _ rfl 40 _ _ _ b10.out Try.underlying40 rfl (by rw [List.size_toArray]; exact i43' hpok) ?_)
        | ((refine wpList_store_A rfl 40 _ _ rfl (n10) _ rfl rfl 40 _ (zero_row w2 n10 hn10) (by rw [List.size_toArray]; exact i43' hpok) (Eq.trans (b := 43) (by rfl) (Eq.symm (show (p).cells.toArray.size = 43 from Pr.size hpok))) (Pr.one hpok) ?_); intro w3 H3 E3; have E23 : Ext w2 w3 := E3 w2.heap.size w2 ((Ext.refl w2).alloc _) (by omega); have b10 := Lib.hid H3; have E13 := E12.trans E23; have hty3 := hty.out.ext (E1.trans E13); have k0 := hty3.cell 0; have k1 := hty3.cell 1; have k2 := hty3.cell 2; have f0 := hty3.frozen 0; have f1 := hty3.frozen 1; have f2 := hty3.frozen 2; clear E3 H3))
      refine (hB.out _ hpok).mono ?_
      rintro e w4 ⟨rfl, E4⟩
      have E14 := E13.trans E4
      have b10 := Lib.hid (b10.out.ext E4)
      cases hb : behP s g p
      · go_wp2
        refine bodyPost_ret (v := .tuple #[.int .i64 1, .int .i64 0]) (by simp [results, Try.results9, go_sem]) rfl ?_
        exact ⟨by rw [HACC.out]; simp [hb], E0.trans (E1.trans E14)⟩
      · have k2 := (hty.out.ext (E1.trans E14)).cell 2
        clear k0 k1 f0 f1 f2 hn10
        have HB := Lib.hid hb
        clear hb
        go_wp2_with (refine wpList_load_row rfl 40 _ rfl _ rfl 40 _ _ _ b10.out Try.underlying40 rfl (by rw [List.size_toArray]; exact i43' hpok) ?_)
        refine (hD.out 21 (.inl rfl) _).mono ?_
        rintro e w6 ⟨rfl, E6⟩
        have E16 := (show Ext w1 _ from E14).trans E6
        cases hd : deafP p 21
        · have kb := (hbox.out.ext (E1.trans E16)).two
          have c2 := (prAt_blk hpok (b10.out.ext E6)).c2
          have ho := orphaned_any (A := fun _ => False) Ad c l nx p.group w6 (H.out.ext (E01.trans E16))
          have HD6 := Lib.hid hd
          clear hd k2
          go_wp2_with fail
          refine ho.mono ?_
          rintro e w7 ⟨rfl, E7⟩
          cases hq : orphL l nx p.group
          · have HO := Lib.hid hq
            go_wp2
            refine bodyPost_ret (v := .tuple #[.int .i64 2, .int .i64 21]) (by simp [results, Try.results9, go_sem]) rfl ?_
            exact ⟨by rw [HACC.out]; simp [HB.out, HD6.out, HO.out], E01.trans (E16.trans E7)⟩
          · have HO := Lib.hid hq
            go_wp2
            refine bodyPost_ret (v := .tuple #[.int .i64 3, .int .i64 0]) (by simp [results, Try.results9, go_sem]) rfl ?_
            exact ⟨by rw [HACC.out]; simp [HB.out, HD6.out, HO.out], E01.trans (E16.trans E7)⟩
        · have HD6 := Lib.hid hd
          clear k2
          go_wp2
          refine bodyPost_ret (v := .tuple #[.int .i64 3, .int .i64 0]) (by simp [results, Try.results9, go_sem]) rfl ?_
          exact ⟨by rw [HACC.out]; simp [HB.out, HD6.out], E01.trans E16⟩
    · go_wp2_with (first
        | (refine wpList_load_row rfl 40 _ rfl _ rfl 40 _ _ _ b10.out Try.underlying40 rfl (by rw [List.size_toArray]; exact i43' hpok) ?_)
        | ((refine wpList_store_A rfl 40 _ _ rfl (n10) _ rfl rfl 40 _ (zero_row w2 n10 hn10) (by rw [List.size_toArray]; exact i43' hpok) (Eq.trans (b := 43) (by rfl) (Eq.symm (show (p).cells.toArray.size = 43 from Pr.size hpok))) (Pr.one hpok) ?_); intro w3 H3 E3; have E23 : Ext w2 w3 := E3 w2.heap.size w2 ((Ext.refl w2).alloc _) (by omega); have b10 := Lib.hid H3; have E13 := E12.trans E23; have hty3 := hty.out.ext (E1.trans E13); have k0 := hty3.cell 0; have k1 := hty3.cell 1; have k2 := hty3.cell 2; have f0 := hty3.frozen 0; have f1 := hty3.frozen 1; have f2 := hty3.frozen 2; clear E3 H3))
      refine (hB.out _ hpok).mono ?_
      rintro e w4 ⟨rfl, E4⟩
      have E14 := E13.trans E4
      have b10 := Lib.hid (b10.out.ext E4)
      cases hb : behP s g p
      · go_wp2
        refine bodyPost_ret (v := .tuple #[.int .i64 1, .int .i64 0]) (by simp [results, Try.results9, go_sem]) rfl ?_
        exact ⟨by rw [HACC.out]; simp [hb], E0.trans (E1.trans E14)⟩
      · have k2 := (hty.out.ext (E1.trans E14)).cell 2
        clear k0 k1 f0 f1 f2 hn10
        have HB := Lib.hid hb
        clear hb
        cases ts
        · go_wp2
          refine bodyPost_ret (v := .tuple #[.int .i64 1, .int .i64 0]) (by simp [results, Try.results9, go_sem]) rfl ?_
          exact ⟨by rw [HACC.out]; simp [HB.out], E0.trans (E1.trans E14)⟩
        · go_wp2_with (refine wpList_openG rfl rfl ?_; (refine wpList_load_row rfl 40 _ rfl _ rfl 40 _ _ _ b10.out Try.underlying40 rfl (by rw [List.size_toArray]; exact i43' hpok) ?_))
          refine (hD.out 22 (.inr rfl) _).mono ?_
          rintro e w5 ⟨rfl, E5⟩
          have E15 := E14.trans E5
          have b5 := Lib.hid (b10.out.ext E5)
          cases he : deafP p 22
          · have HE5 := Lib.hid he
            clear he
            have b10 := b5
            go_wp2_with (refine wpList_load_row rfl 40 _ rfl _ rfl 40 _ _ _ b10.out Try.underlying40 rfl (by rw [List.size_toArray]; exact i43' hpok) ?_)
            refine (hD.out 22 (.inr rfl) _).mono ?_
            rw [HE5.out]
            rintro e w6 ⟨rfl, E6⟩
            have E16 := E15.trans E6
            have kb := (hbox.out.ext (E1.trans E16)).two
            have c2 := (prAt_blk hpok (b5.out.ext E6)).c2
            have ho := orphaned_any (A := fun _ => False) Ad c l nx p.group w6 (H.out.ext (E01.trans E16))
            clear k2
            go_wp2_with fail
            refine ho.mono ?_
            rintro e w7 ⟨rfl, E7⟩
            cases hq : orphL l nx p.group
            · have HO := Lib.hid hq
              go_wp2
              refine bodyPost_ret (v := .tuple #[.int .i64 2, .int .i64 22]) (by simp [results, Try.results9, go_sem]) rfl ?_
              exact ⟨by rw [HACC.out]; simp [HB.out, HE5.out, HO.out], E01.trans (E16.trans E7)⟩
            · have HO := Lib.hid hq
              go_wp2
              refine bodyPost_ret (v := .tuple #[.int .i64 3, .int .i64 0]) (by simp [results, Try.results9, go_sem]) rfl ?_
              exact ⟨by rw [HACC.out]; simp [HB.out, HE5.out, HO.out], E01.trans (E16.trans E7)⟩
          · have HE5 := Lib.hid he
            go_wp2
            refine bodyPost_ret (v := .tuple #[.int .i64 1, .int .i64 0]) (by simp [results, Try.results9, go_sem]) rfl ?_
            exact ⟨by rw [HACC.out]; simp [HB.out, HE5.out], E01.trans E15⟩
end Go.Proofs.Ytcncacllaonplaa
